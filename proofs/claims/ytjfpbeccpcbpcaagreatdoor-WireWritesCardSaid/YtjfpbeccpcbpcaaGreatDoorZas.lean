/-
  Wga2 / Wga3 / Wga4: texts of one proof, one behind the other.
  Conditions: none of its own.
-/
import Derived.Test.YtjfpbeccpcbpcaaGreatDoorZah
set_option linter.unusedVariables false
set_option linter.unusedSimpArgs false
namespace Go.Proofs.YtjfpbeccpcbpcaaGreatDoor
open Go.RowKit
set_option maxRecDepth 20000 in
set_option maxHeartbeats 12800000 in
theorem good_f2 (m : Wi.Msg) (v : MsgV) (w : World) (h : MsgAt w m v) (ok : MsgOk m) (h1 : Wi.inB m.kind 1 9 = true) (h2 : Wi.unitB m.frm = false) :
  Calls Tryz.prog 13 #[msgV m v] w fun e w' => e = .returned (.bool false) ∧ Below w.heap.size w w' := by
 have HM := Lib.hid h
 have HO := Lib.hid ok
 obtain ⟨s0, c0, hh0⟩ := h.chain.form
 obtain ⟨s1, c1, hh1⟩ := h.lives.form
 obtain ⟨s2, c2, hh2⟩ := h.brecs.form
 obtain ⟨s3, c3, hh3⟩ := h.table.form
 obtain ⟨s4, c4, hh4⟩ := h.qrecs.form
 obtain ⟨s5, c5, hh5⟩ := h.parts.form
 obtain ⟨s6, c6, hh6⟩ := h.arecs.form
 obtain ⟨v0, v1, v2, v3, v4, v5, v6⟩ := v
 dsimp only at hh0 hh1 hh2 hh3 hh4 hh5 hh6
 subst hh0 hh1 hh2 hh3 hh4 hh5 hh6
 obtain ⟨x_kind, x_frm, x_to, x_part, x_ep, x_off, x_high, x_life, x_pep, x_chain, x_learner, x_lives, x_batch, x_table, x_req, x_resp⟩ := m
 dsimp only at *
 clear h ok
 have HK : Hid (1 ≤ x_kind ∧ x_kind ≤ 9) := by simpa [Hid, Wi.inB] using h1
 have G1 := Lib.hid h1
 have G2 := Lib.hid h2
 clear h1 h2
 have HI38 := Lib.hid (show (Tryz.prog.info? 36).map (·.size) = some ((.int .i64 x_kind :: .int .i64 x_frm :: .int .i64 x_to :: .int .i64 x_part :: .int .i64 x_ep :: .int .i64 x_off :: .int .i64 x_high :: .int .i64 x_life :: .int .i64 x_pep :: .slice s0 x_chain.length c0 :: .int .i64 x_learner :: .slice s1 x_lives.length c1 :: .int .i64 x_batch.base :: .int .i64 x_batch.count :: .int .i64 x_batch.prod :: .int .i64 x_batch.seq :: .int .i64 x_batch.time :: .slice s2 x_batch.recs.length c2 :: .slice s3 x_table.length c3 :: .int .i64 x_req.client :: .int .i64 x_req.n :: .int .i64 x_req.kind :: .int .i64 x_req.part :: .int .i64 x_req.seq :: .int .i64 x_req.off :: .int .i64 x_req.max :: .int .i64 x_req.gen :: .string ⟨x_req.group.toArray⟩ :: .string ⟨x_req.member.toArray⟩ :: .slice s4 x_req.recs.length c4 :: .int .i64 x_resp.client :: .int .i64 x_resp.n :: .int .i64 x_resp.code :: .int .i64 x_resp.off :: .int .i64 x_resp.high :: .int .i64 x_resp.gen :: .slice s5 x_resp.parts.length c5 :: .slice s6 x_resp.recs.length c6 :: []) : List Value).length by kernel_rfl)
 unfold msgV msgC
 dsimp only
 go_enter Tryz.func13, Tryz.ntmps13
 obtain ⟨w1, hw1, CA, B1⟩ := oneBox (w := w) (.int .i64 x_kind :: .int .i64 x_frm :: .int .i64 x_to :: .int .i64 x_part :: .int .i64 x_ep :: .int .i64 x_off :: .int .i64 x_high :: .int .i64 x_life :: .int .i64 x_pep :: .slice s0 x_chain.length c0 :: .int .i64 x_learner :: .slice s1 x_lives.length c1 :: .int .i64 x_batch.base :: .int .i64 x_batch.count :: .int .i64 x_batch.prod :: .int .i64 x_batch.seq :: .int .i64 x_batch.time :: .slice s2 x_batch.recs.length c2 :: .slice s3 x_table.length c3 :: .int .i64 x_req.client :: .int .i64 x_req.n :: .int .i64 x_req.kind :: .int .i64 x_req.part :: .int .i64 x_req.seq :: .int .i64 x_req.off :: .int .i64 x_req.max :: .int .i64 x_req.gen :: .string ⟨x_req.group.toArray⟩ :: .string ⟨x_req.member.toArray⟩ :: .slice s4 x_req.recs.length c4 :: .int .i64 x_resp.client :: .int .i64 x_resp.n :: .int .i64 x_resp.code :: .int .i64 x_resp.off :: .int .i64 x_resp.high :: .int .i64 x_resp.gen :: .slice s5 x_resp.parts.length c5 :: .slice s6 x_resp.recs.length c6 :: []) 36
 have HW1 := Lib.hid hw1
 clear hw1
 go_upto_region 1 with (fail)
 first | rw [HW1.out] | skip
 clear HW1
 have M1 := Lib.hid (HM.out.kept B1.out)
 have BW : Hid (∀ W, Below w1.heap.size w1 W → Below w.heap.size w W) := fun W h => bt B1.out h
 generalize w.heap.size = pa at CA ⊢
 clear HM
 go_cut [51] (fun t51 wz => t51 = .bool true ∧ Below w1.heap.size w1 wz)
 case first =>
  have m0 : ∀ y : AnyOf (fun (L : Array Bool) (W : World) => W = w1.drew), y.1.cell? ⟨pa, 0, none⟩ = some (.int .i64 x_kind) := fun y => by
   obtain ⟨L, hL⟩ := y.2
   rw [show y.1 = w1.drew from hL]
   exact CA.out.cell 0
  have m1 : ∀ y : AnyOf (fun (L : Array Bool) (W : World) => W = w1.drew), y.1.cell? ⟨pa, 1, none⟩ = some (.int .i64 x_frm) := fun y => by
   obtain ⟨L, hL⟩ := y.2
   rw [show y.1 = w1.drew from hL]
   exact CA.out.cell 1
  have m2 : ∀ y : AnyOf (fun (L : Array Bool) (W : World) => W = w1.drew), y.1.cell? ⟨pa, 2, none⟩ = some (.int .i64 x_to) := fun y => by
   obtain ⟨L, hL⟩ := y.2
   rw [show y.1 = w1.drew from hL]
   exact CA.out.cell 2
  have m3 : ∀ y : AnyOf (fun (L : Array Bool) (W : World) => W = w1.drew), y.1.cell? ⟨pa, 3, none⟩ = some (.int .i64 x_part) := fun y => by
   obtain ⟨L, hL⟩ := y.2
   rw [show y.1 = w1.drew from hL]
   exact CA.out.cell 3
  have m4 : ∀ y : AnyOf (fun (L : Array Bool) (W : World) => W = w1.drew), y.1.cell? ⟨pa, 4, none⟩ = some (.int .i64 x_ep) := fun y => by
   obtain ⟨L, hL⟩ := y.2
   rw [show y.1 = w1.drew from hL]
   exact CA.out.cell 4
  have m5 : ∀ y : AnyOf (fun (L : Array Bool) (W : World) => W = w1.drew), y.1.cell? ⟨pa, 5, none⟩ = some (.int .i64 x_off) := fun y => by
   obtain ⟨L, hL⟩ := y.2
   rw [show y.1 = w1.drew from hL]
   exact CA.out.cell 5
  have m6 : ∀ y : AnyOf (fun (L : Array Bool) (W : World) => W = w1.drew), y.1.cell? ⟨pa, 6, none⟩ = some (.int .i64 x_high) := fun y => by
   obtain ⟨L, hL⟩ := y.2
   rw [show y.1 = w1.drew from hL]
   exact CA.out.cell 6
  have m7 : ∀ y : AnyOf (fun (L : Array Bool) (W : World) => W = w1.drew), y.1.cell? ⟨pa, 7, none⟩ = some (.int .i64 x_life) := fun y => by
   obtain ⟨L, hL⟩ := y.2
   rw [show y.1 = w1.drew from hL]
   exact CA.out.cell 7
  have hC0 : (fun (L : Array Bool) (W : World) => W = w1.drew) (Array.replicate 47 false) w1.drew := rfl
  have hne : Nonempty (AnyOf (fun (L : Array Bool) (W : World) => W = w1.drew)) := ⟨⟨_, Array.replicate 47 false, hC0⟩⟩
  go_wp2
  refine wp_region_ranks (fun (L : Array Bool) (W : World) => W = w1.drew) _ (by kernel_rfl) (by kernel_rfl) rfl rfl ?_
  refine rQuiet_head 2 (by decide) (by kernel_rfl) (fun i L W h1 h2 hc => hc) ?_
  simp only [List.take_succ_cons, List.take_zero, List.drop_succ_cons, List.drop_zero]
  repeat (go_big_quiet_step (fail))
  refine wpQuiet_nil ?_
  refine rQuiet_call (f := 31) (args := #[.int .i64 x_kind, .int .i64 1, .int .i64 9]) (.bool true) rfl (fun w => by go_simp) (fun L w hD hi hc => (wwithin_any x_kind 1 9 w).mono fun e w' ⟨he, hw⟩ => ⟨by rw [he, G1.out], by rw [hw]; exact hc⟩) ?_
  simp only [Act.put, List.setIfInBounds_toArray, List.set_cons_zero, List.set_cons_succ]
  refine rQuiet_head 4 (by decide) (by kernel_rfl) (fun i L W h1 h2 hc => hc) ?_
  simp only [List.take_succ_cons, List.take_zero, List.drop_succ_cons, List.drop_zero]
  repeat (go_big_quiet_step (fail))
  refine wpQuiet_nil ?_
  refine rQuiet_call (f := 32) (args := #[.int .i64 x_frm]) (.bool false) rfl (fun w => by go_simp) (fun L w hD hi hc => (isUnit_any x_frm w).mono fun e w' ⟨he, hw⟩ => ⟨by rw [he, G2.out], by rw [hw]; exact hc⟩) ?_
  simp only [Act.put, List.setIfInBounds_toArray, List.set_cons_zero, List.set_cons_succ]
  refine rQuiet_head 5 (by decide) (by kernel_rfl) (fun i L W h1 h2 hc => hc) ?_
  simp only [List.take_succ_cons, List.take_zero, List.drop_succ_cons, List.drop_zero]
  repeat (go_big_quiet_step (fail))
  refine wpQuiet_nil ?_
  refine rQuiet_none (by go_simp) (fun L w hD hi hc => hc) ?_
  simp only [Act.put, List.setIfInBounds_toArray, List.set_cons_zero, List.set_cons_succ]
  refine rQuiet_head 5 (by decide) (by kernel_rfl) (fun i L W h1 h2 hc => hc) ?_
  simp only [List.take_succ_cons, List.take_zero, List.drop_succ_cons, List.drop_zero]
  repeat (go_big_quiet_step (fail))
  refine wpQuiet_nil ?_
  refine rQuiet_none (by go_simp) (fun L w hD hi hc => hc) ?_
  simp only [Act.put, List.setIfInBounds_toArray, List.set_cons_zero, List.set_cons_succ]
  refine rQuiet_head 7 (by decide) (by kernel_rfl) (fun i L W h1 h2 hc => hc) ?_
  simp only [List.take_succ_cons, List.take_zero, List.drop_succ_cons, List.drop_zero]
  repeat (go_big_quiet_step (fail))
  refine wpQuiet_nil ?_
  refine rQuiet_none (by go_simp) (fun L w hD hi hc => hc) ?_
  simp only [Act.put, List.setIfInBounds_toArray, List.set_cons_zero, List.set_cons_succ]
  refine rQuiet_none (by go_simp) (fun L w hD hi hc => hc) ?_
  simp only [Act.put, List.setIfInBounds_toArray, List.set_cons_zero, List.set_cons_succ]
  refine rQuiet_head 7 (by decide) (by kernel_rfl) (fun i L W h1 h2 hc => hc) ?_
  simp only [List.take_succ_cons, List.take_zero, List.drop_succ_cons, List.drop_zero]
  repeat (go_big_quiet_step (fail))
  refine wpQuiet_nil ?_
  refine rQuiet_none (by go_simp) (fun L w hD hi hc => hc) ?_
  simp only [Act.put, List.setIfInBounds_toArray, List.set_cons_zero, List.set_cons_succ]
  refine rQuiet_none (by go_simp) (fun L w hD hi hc => hc) ?_
  simp only [Act.put, List.setIfInBounds_toArray, List.set_cons_zero, List.set_cons_succ]
  refine rQuiet_head 3 (by decide) (by kernel_rfl) (fun i L W h1 h2 hc => hc) ?_
  simp only [List.take_succ_cons, List.take_zero, List.drop_succ_cons, List.drop_zero]
  repeat (go_big_quiet_step (fail))
  refine wpQuiet_nil ?_
  refine rQuiet_none (by go_simp) (fun L w hD hi hc => hc) ?_
  simp only [Act.put, List.setIfInBounds_toArray, List.set_cons_zero, List.set_cons_succ]
  refine rQuiet_none (by go_simp) (fun L w hD hi hc => hc) ?_
  simp only [Act.put, List.setIfInBounds_toArray, List.set_cons_zero, List.set_cons_succ]
  refine rQuiet_none (by go_simp) (fun L w hD hi hc => hc) ?_
  simp only [Act.put, List.setIfInBounds_toArray, List.set_cons_zero, List.set_cons_succ]
  refine rQuiet_none (by go_simp) (fun L w hD hi hc => hc) ?_
  simp only [Act.put, List.setIfInBounds_toArray, List.set_cons_zero, List.set_cons_succ]
  refine rQuiet_head 2 (by decide) (by kernel_rfl) (fun i L W h1 h2 hc => hc) ?_
  simp only [List.take_succ_cons, List.take_zero, List.drop_succ_cons, List.drop_zero]
  repeat (go_big_quiet_step (fail))
  refine wpQuiet_nil ?_
  intro w9 hw9
  have T4 := Lib.hid hw9
  go_wp2
  go_meet
  case rel => exact ⟨rfl, by rw [show w9 = w1.drew from T4.out]; exact (Below.refl _ _).drew⟩
 case rest =>
  obtain ⟨rfl, hwz⟩ := hcut
  have BZ := Lib.hid (BW.out _ hwz)
  clear hwz CA
  go_wp2
  go_ret
  exact ⟨rfl, BZ.out⟩
end Go.Proofs.YtjfpbeccpcbpcaaGreatDoor
namespace Go.Proofs.YtjfpbeccpcbpcaaGreatDoor
open Go.RowKit
set_option maxRecDepth 20000 in
set_option maxHeartbeats 12800000 in
theorem good_f3 (m : Wi.Msg) (v : MsgV) (w : World) (h : MsgAt w m v) (ok : MsgOk m) (h1 : Wi.inB m.kind 1 9 = true) (h2 : Wi.unitB m.frm = true) (h3 : Wi.unitB m.«to» = false) :
  Calls Tryz.prog 13 #[msgV m v] w fun e w' => e = .returned (.bool false) ∧ Below w.heap.size w w' := by
 have HM := Lib.hid h
 have HO := Lib.hid ok
 obtain ⟨s0, c0, hh0⟩ := h.chain.form
 obtain ⟨s1, c1, hh1⟩ := h.lives.form
 obtain ⟨s2, c2, hh2⟩ := h.brecs.form
 obtain ⟨s3, c3, hh3⟩ := h.table.form
 obtain ⟨s4, c4, hh4⟩ := h.qrecs.form
 obtain ⟨s5, c5, hh5⟩ := h.parts.form
 obtain ⟨s6, c6, hh6⟩ := h.arecs.form
 obtain ⟨v0, v1, v2, v3, v4, v5, v6⟩ := v
 dsimp only at hh0 hh1 hh2 hh3 hh4 hh5 hh6
 subst hh0 hh1 hh2 hh3 hh4 hh5 hh6
 obtain ⟨x_kind, x_frm, x_to, x_part, x_ep, x_off, x_high, x_life, x_pep, x_chain, x_learner, x_lives, x_batch, x_table, x_req, x_resp⟩ := m
 dsimp only at *
 clear h ok
 have HK : Hid (1 ≤ x_kind ∧ x_kind ≤ 9) := by simpa [Hid, Wi.inB] using h1
 have G1 := Lib.hid h1
 have G2 := Lib.hid h2
 have G3 := Lib.hid h3
 clear h1 h2 h3
 have HI38 := Lib.hid (show (Tryz.prog.info? 36).map (·.size) = some ((.int .i64 x_kind :: .int .i64 x_frm :: .int .i64 x_to :: .int .i64 x_part :: .int .i64 x_ep :: .int .i64 x_off :: .int .i64 x_high :: .int .i64 x_life :: .int .i64 x_pep :: .slice s0 x_chain.length c0 :: .int .i64 x_learner :: .slice s1 x_lives.length c1 :: .int .i64 x_batch.base :: .int .i64 x_batch.count :: .int .i64 x_batch.prod :: .int .i64 x_batch.seq :: .int .i64 x_batch.time :: .slice s2 x_batch.recs.length c2 :: .slice s3 x_table.length c3 :: .int .i64 x_req.client :: .int .i64 x_req.n :: .int .i64 x_req.kind :: .int .i64 x_req.part :: .int .i64 x_req.seq :: .int .i64 x_req.off :: .int .i64 x_req.max :: .int .i64 x_req.gen :: .string ⟨x_req.group.toArray⟩ :: .string ⟨x_req.member.toArray⟩ :: .slice s4 x_req.recs.length c4 :: .int .i64 x_resp.client :: .int .i64 x_resp.n :: .int .i64 x_resp.code :: .int .i64 x_resp.off :: .int .i64 x_resp.high :: .int .i64 x_resp.gen :: .slice s5 x_resp.parts.length c5 :: .slice s6 x_resp.recs.length c6 :: []) : List Value).length by kernel_rfl)
 unfold msgV msgC
 dsimp only
 go_enter Tryz.func13, Tryz.ntmps13
 obtain ⟨w1, hw1, CA, B1⟩ := oneBox (w := w) (.int .i64 x_kind :: .int .i64 x_frm :: .int .i64 x_to :: .int .i64 x_part :: .int .i64 x_ep :: .int .i64 x_off :: .int .i64 x_high :: .int .i64 x_life :: .int .i64 x_pep :: .slice s0 x_chain.length c0 :: .int .i64 x_learner :: .slice s1 x_lives.length c1 :: .int .i64 x_batch.base :: .int .i64 x_batch.count :: .int .i64 x_batch.prod :: .int .i64 x_batch.seq :: .int .i64 x_batch.time :: .slice s2 x_batch.recs.length c2 :: .slice s3 x_table.length c3 :: .int .i64 x_req.client :: .int .i64 x_req.n :: .int .i64 x_req.kind :: .int .i64 x_req.part :: .int .i64 x_req.seq :: .int .i64 x_req.off :: .int .i64 x_req.max :: .int .i64 x_req.gen :: .string ⟨x_req.group.toArray⟩ :: .string ⟨x_req.member.toArray⟩ :: .slice s4 x_req.recs.length c4 :: .int .i64 x_resp.client :: .int .i64 x_resp.n :: .int .i64 x_resp.code :: .int .i64 x_resp.off :: .int .i64 x_resp.high :: .int .i64 x_resp.gen :: .slice s5 x_resp.parts.length c5 :: .slice s6 x_resp.recs.length c6 :: []) 36
 have HW1 := Lib.hid hw1
 clear hw1
 go_upto_region 1 with (fail)
 first | rw [HW1.out] | skip
 clear HW1
 have M1 := Lib.hid (HM.out.kept B1.out)
 have BW : Hid (∀ W, Below w1.heap.size w1 W → Below w.heap.size w W) := fun W h => bt B1.out h
 generalize w.heap.size = pa at CA ⊢
 clear HM
 go_cut [51] (fun t51 wz => t51 = .bool true ∧ Below w1.heap.size w1 wz)
 case first =>
  have m0 : ∀ y : AnyOf (fun (L : Array Bool) (W : World) => W = w1.drew), y.1.cell? ⟨pa, 0, none⟩ = some (.int .i64 x_kind) := fun y => by
   obtain ⟨L, hL⟩ := y.2
   rw [show y.1 = w1.drew from hL]
   exact CA.out.cell 0
  have m1 : ∀ y : AnyOf (fun (L : Array Bool) (W : World) => W = w1.drew), y.1.cell? ⟨pa, 1, none⟩ = some (.int .i64 x_frm) := fun y => by
   obtain ⟨L, hL⟩ := y.2
   rw [show y.1 = w1.drew from hL]
   exact CA.out.cell 1
  have m2 : ∀ y : AnyOf (fun (L : Array Bool) (W : World) => W = w1.drew), y.1.cell? ⟨pa, 2, none⟩ = some (.int .i64 x_to) := fun y => by
   obtain ⟨L, hL⟩ := y.2
   rw [show y.1 = w1.drew from hL]
   exact CA.out.cell 2
  have m3 : ∀ y : AnyOf (fun (L : Array Bool) (W : World) => W = w1.drew), y.1.cell? ⟨pa, 3, none⟩ = some (.int .i64 x_part) := fun y => by
   obtain ⟨L, hL⟩ := y.2
   rw [show y.1 = w1.drew from hL]
   exact CA.out.cell 3
  have m4 : ∀ y : AnyOf (fun (L : Array Bool) (W : World) => W = w1.drew), y.1.cell? ⟨pa, 4, none⟩ = some (.int .i64 x_ep) := fun y => by
   obtain ⟨L, hL⟩ := y.2
   rw [show y.1 = w1.drew from hL]
   exact CA.out.cell 4
  have m5 : ∀ y : AnyOf (fun (L : Array Bool) (W : World) => W = w1.drew), y.1.cell? ⟨pa, 5, none⟩ = some (.int .i64 x_off) := fun y => by
   obtain ⟨L, hL⟩ := y.2
   rw [show y.1 = w1.drew from hL]
   exact CA.out.cell 5
  have m6 : ∀ y : AnyOf (fun (L : Array Bool) (W : World) => W = w1.drew), y.1.cell? ⟨pa, 6, none⟩ = some (.int .i64 x_high) := fun y => by
   obtain ⟨L, hL⟩ := y.2
   rw [show y.1 = w1.drew from hL]
   exact CA.out.cell 6
  have m7 : ∀ y : AnyOf (fun (L : Array Bool) (W : World) => W = w1.drew), y.1.cell? ⟨pa, 7, none⟩ = some (.int .i64 x_life) := fun y => by
   obtain ⟨L, hL⟩ := y.2
   rw [show y.1 = w1.drew from hL]
   exact CA.out.cell 7
  have hC0 : (fun (L : Array Bool) (W : World) => W = w1.drew) (Array.replicate 47 false) w1.drew := rfl
  have hne : Nonempty (AnyOf (fun (L : Array Bool) (W : World) => W = w1.drew)) := ⟨⟨_, Array.replicate 47 false, hC0⟩⟩
  go_wp2
  refine wp_region_ranks (fun (L : Array Bool) (W : World) => W = w1.drew) _ (by kernel_rfl) (by kernel_rfl) rfl rfl ?_
  refine rQuiet_head 2 (by decide) (by kernel_rfl) (fun i L W h1 h2 hc => hc) ?_
  simp only [List.take_succ_cons, List.take_zero, List.drop_succ_cons, List.drop_zero]
  repeat (go_big_quiet_step (fail))
  refine wpQuiet_nil ?_
  refine rQuiet_call (f := 31) (args := #[.int .i64 x_kind, .int .i64 1, .int .i64 9]) (.bool true) rfl (fun w => by go_simp) (fun L w hD hi hc => (wwithin_any x_kind 1 9 w).mono fun e w' ⟨he, hw⟩ => ⟨by rw [he, G1.out], by rw [hw]; exact hc⟩) ?_
  simp only [Act.put, List.setIfInBounds_toArray, List.set_cons_zero, List.set_cons_succ]
  refine rQuiet_head 4 (by decide) (by kernel_rfl) (fun i L W h1 h2 hc => hc) ?_
  simp only [List.take_succ_cons, List.take_zero, List.drop_succ_cons, List.drop_zero]
  repeat (go_big_quiet_step (fail))
  refine wpQuiet_nil ?_
  refine rQuiet_call (f := 32) (args := #[.int .i64 x_frm]) (.bool true) rfl (fun w => by go_simp) (fun L w hD hi hc => (isUnit_any x_frm w).mono fun e w' ⟨he, hw⟩ => ⟨by rw [he, G2.out], by rw [hw]; exact hc⟩) ?_
  simp only [Act.put, List.setIfInBounds_toArray, List.set_cons_zero, List.set_cons_succ]
  refine rQuiet_head 5 (by decide) (by kernel_rfl) (fun i L W h1 h2 hc => hc) ?_
  simp only [List.take_succ_cons, List.take_zero, List.drop_succ_cons, List.drop_zero]
  repeat (go_big_quiet_step (fail))
  refine wpQuiet_nil ?_
  refine rQuiet_call (f := 32) (args := #[.int .i64 x_to]) (.bool false) rfl (fun w => by go_simp) (fun L w hD hi hc => (isUnit_any x_to w).mono fun e w' ⟨he, hw⟩ => ⟨by rw [he, G3.out], by rw [hw]; exact hc⟩) ?_
  simp only [Act.put, List.setIfInBounds_toArray, List.set_cons_zero, List.set_cons_succ]
  refine rQuiet_head 5 (by decide) (by kernel_rfl) (fun i L W h1 h2 hc => hc) ?_
  simp only [List.take_succ_cons, List.take_zero, List.drop_succ_cons, List.drop_zero]
  repeat (go_big_quiet_step (fail))
  refine wpQuiet_nil ?_
  refine rQuiet_none (by go_simp) (fun L w hD hi hc => hc) ?_
  simp only [Act.put, List.setIfInBounds_toArray, List.set_cons_zero, List.set_cons_succ]
  refine rQuiet_head 7 (by decide) (by kernel_rfl) (fun i L W h1 h2 hc => hc) ?_
  simp only [List.take_succ_cons, List.take_zero, List.drop_succ_cons, List.drop_zero]
  repeat (go_big_quiet_step (fail))
  refine wpQuiet_nil ?_
  refine rQuiet_none (by go_simp) (fun L w hD hi hc => hc) ?_
  simp only [Act.put, List.setIfInBounds_toArray, List.set_cons_zero, List.set_cons_succ]
  refine rQuiet_none (by go_simp) (fun L w hD hi hc => hc) ?_
  simp only [Act.put, List.setIfInBounds_toArray, List.set_cons_zero, List.set_cons_succ]
  refine rQuiet_head 7 (by decide) (by kernel_rfl) (fun i L W h1 h2 hc => hc) ?_
  simp only [List.take_succ_cons, List.take_zero, List.drop_succ_cons, List.drop_zero]
  repeat (go_big_quiet_step (fail))
  refine wpQuiet_nil ?_
  refine rQuiet_none (by go_simp) (fun L w hD hi hc => hc) ?_
  simp only [Act.put, List.setIfInBounds_toArray, List.set_cons_zero, List.set_cons_succ]
  refine rQuiet_none (by go_simp) (fun L w hD hi hc => hc) ?_
  simp only [Act.put, List.setIfInBounds_toArray, List.set_cons_zero, List.set_cons_succ]
  refine rQuiet_head 3 (by decide) (by kernel_rfl) (fun i L W h1 h2 hc => hc) ?_
  simp only [List.take_succ_cons, List.take_zero, List.drop_succ_cons, List.drop_zero]
  repeat (go_big_quiet_step (fail))
  refine wpQuiet_nil ?_
  refine rQuiet_none (by go_simp) (fun L w hD hi hc => hc) ?_
  simp only [Act.put, List.setIfInBounds_toArray, List.set_cons_zero, List.set_cons_succ]
  refine rQuiet_none (by go_simp) (fun L w hD hi hc => hc) ?_
  simp only [Act.put, List.setIfInBounds_toArray, List.set_cons_zero, List.set_cons_succ]
  refine rQuiet_none (by go_simp) (fun L w hD hi hc => hc) ?_
  simp only [Act.put, List.setIfInBounds_toArray, List.set_cons_zero, List.set_cons_succ]
  refine rQuiet_none (by go_simp) (fun L w hD hi hc => hc) ?_
  simp only [Act.put, List.setIfInBounds_toArray, List.set_cons_zero, List.set_cons_succ]
  refine rQuiet_head 2 (by decide) (by kernel_rfl) (fun i L W h1 h2 hc => hc) ?_
  simp only [List.take_succ_cons, List.take_zero, List.drop_succ_cons, List.drop_zero]
  repeat (go_big_quiet_step (fail))
  refine wpQuiet_nil ?_
  intro w9 hw9
  have T4 := Lib.hid hw9
  go_wp2
  go_meet
  case rel => exact ⟨rfl, by rw [show w9 = w1.drew from T4.out]; exact (Below.refl _ _).drew⟩
 case rest =>
  obtain ⟨rfl, hwz⟩ := hcut
  have BZ := Lib.hid (BW.out _ hwz)
  clear hwz CA
  go_wp2
  go_ret
  exact ⟨rfl, BZ.out⟩
end Go.Proofs.YtjfpbeccpcbpcaaGreatDoor
namespace Go.Proofs.YtjfpbeccpcbpcaaGreatDoor
open Go.RowKit
set_option maxRecDepth 20000 in
set_option maxHeartbeats 12800000 in
theorem good_f4 (m : Wi.Msg) (v : MsgV) (w : World) (h : MsgAt w m v) (ok : MsgOk m) (h1 : Wi.inB m.kind 1 9 = true) (h2 : Wi.unitB m.frm = true) (h3 : Wi.unitB m.«to» = true) (h4 : Wi.inB m.part 0 3 = false) :
  Calls Tryz.prog 13 #[msgV m v] w fun e w' => e = .returned (.bool false) ∧ Below w.heap.size w w' := by
 have HM := Lib.hid h
 have HO := Lib.hid ok
 obtain ⟨s0, c0, hh0⟩ := h.chain.form
 obtain ⟨s1, c1, hh1⟩ := h.lives.form
 obtain ⟨s2, c2, hh2⟩ := h.brecs.form
 obtain ⟨s3, c3, hh3⟩ := h.table.form
 obtain ⟨s4, c4, hh4⟩ := h.qrecs.form
 obtain ⟨s5, c5, hh5⟩ := h.parts.form
 obtain ⟨s6, c6, hh6⟩ := h.arecs.form
 obtain ⟨v0, v1, v2, v3, v4, v5, v6⟩ := v
 dsimp only at hh0 hh1 hh2 hh3 hh4 hh5 hh6
 subst hh0 hh1 hh2 hh3 hh4 hh5 hh6
 obtain ⟨x_kind, x_frm, x_to, x_part, x_ep, x_off, x_high, x_life, x_pep, x_chain, x_learner, x_lives, x_batch, x_table, x_req, x_resp⟩ := m
 dsimp only at *
 clear h ok
 have HK : Hid (1 ≤ x_kind ∧ x_kind ≤ 9) := by simpa [Hid, Wi.inB] using h1
 have G1 := Lib.hid h1
 have G2 := Lib.hid h2
 have G3 := Lib.hid h3
 have G4 := Lib.hid h4
 clear h1 h2 h3 h4
 have HI38 := Lib.hid (show (Tryz.prog.info? 36).map (·.size) = some ((.int .i64 x_kind :: .int .i64 x_frm :: .int .i64 x_to :: .int .i64 x_part :: .int .i64 x_ep :: .int .i64 x_off :: .int .i64 x_high :: .int .i64 x_life :: .int .i64 x_pep :: .slice s0 x_chain.length c0 :: .int .i64 x_learner :: .slice s1 x_lives.length c1 :: .int .i64 x_batch.base :: .int .i64 x_batch.count :: .int .i64 x_batch.prod :: .int .i64 x_batch.seq :: .int .i64 x_batch.time :: .slice s2 x_batch.recs.length c2 :: .slice s3 x_table.length c3 :: .int .i64 x_req.client :: .int .i64 x_req.n :: .int .i64 x_req.kind :: .int .i64 x_req.part :: .int .i64 x_req.seq :: .int .i64 x_req.off :: .int .i64 x_req.max :: .int .i64 x_req.gen :: .string ⟨x_req.group.toArray⟩ :: .string ⟨x_req.member.toArray⟩ :: .slice s4 x_req.recs.length c4 :: .int .i64 x_resp.client :: .int .i64 x_resp.n :: .int .i64 x_resp.code :: .int .i64 x_resp.off :: .int .i64 x_resp.high :: .int .i64 x_resp.gen :: .slice s5 x_resp.parts.length c5 :: .slice s6 x_resp.recs.length c6 :: []) : List Value).length by kernel_rfl)
 unfold msgV msgC
 dsimp only
 go_enter Tryz.func13, Tryz.ntmps13
 obtain ⟨w1, hw1, CA, B1⟩ := oneBox (w := w) (.int .i64 x_kind :: .int .i64 x_frm :: .int .i64 x_to :: .int .i64 x_part :: .int .i64 x_ep :: .int .i64 x_off :: .int .i64 x_high :: .int .i64 x_life :: .int .i64 x_pep :: .slice s0 x_chain.length c0 :: .int .i64 x_learner :: .slice s1 x_lives.length c1 :: .int .i64 x_batch.base :: .int .i64 x_batch.count :: .int .i64 x_batch.prod :: .int .i64 x_batch.seq :: .int .i64 x_batch.time :: .slice s2 x_batch.recs.length c2 :: .slice s3 x_table.length c3 :: .int .i64 x_req.client :: .int .i64 x_req.n :: .int .i64 x_req.kind :: .int .i64 x_req.part :: .int .i64 x_req.seq :: .int .i64 x_req.off :: .int .i64 x_req.max :: .int .i64 x_req.gen :: .string ⟨x_req.group.toArray⟩ :: .string ⟨x_req.member.toArray⟩ :: .slice s4 x_req.recs.length c4 :: .int .i64 x_resp.client :: .int .i64 x_resp.n :: .int .i64 x_resp.code :: .int .i64 x_resp.off :: .int .i64 x_resp.high :: .int .i64 x_resp.gen :: .slice s5 x_resp.parts.length c5 :: .slice s6 x_resp.recs.length c6 :: []) 36
 have HW1 := Lib.hid hw1
 clear hw1
 go_upto_region 1 with (fail)
 first | rw [HW1.out] | skip
 clear HW1
 have M1 := Lib.hid (HM.out.kept B1.out)
 have BW : Hid (∀ W, Below w1.heap.size w1 W → Below w.heap.size w W) := fun W h => bt B1.out h
 generalize w.heap.size = pa at CA ⊢
 clear HM
 go_cut [51] (fun t51 wz => t51 = .bool true ∧ Below w1.heap.size w1 wz)
 case first =>
  have m0 : ∀ y : AnyOf (fun (L : Array Bool) (W : World) => W = w1.drew), y.1.cell? ⟨pa, 0, none⟩ = some (.int .i64 x_kind) := fun y => by
   obtain ⟨L, hL⟩ := y.2
   rw [show y.1 = w1.drew from hL]
   exact CA.out.cell 0
  have m1 : ∀ y : AnyOf (fun (L : Array Bool) (W : World) => W = w1.drew), y.1.cell? ⟨pa, 1, none⟩ = some (.int .i64 x_frm) := fun y => by
   obtain ⟨L, hL⟩ := y.2
   rw [show y.1 = w1.drew from hL]
   exact CA.out.cell 1
  have m2 : ∀ y : AnyOf (fun (L : Array Bool) (W : World) => W = w1.drew), y.1.cell? ⟨pa, 2, none⟩ = some (.int .i64 x_to) := fun y => by
   obtain ⟨L, hL⟩ := y.2
   rw [show y.1 = w1.drew from hL]
   exact CA.out.cell 2
  have m3 : ∀ y : AnyOf (fun (L : Array Bool) (W : World) => W = w1.drew), y.1.cell? ⟨pa, 3, none⟩ = some (.int .i64 x_part) := fun y => by
   obtain ⟨L, hL⟩ := y.2
   rw [show y.1 = w1.drew from hL]
   exact CA.out.cell 3
  have m4 : ∀ y : AnyOf (fun (L : Array Bool) (W : World) => W = w1.drew), y.1.cell? ⟨pa, 4, none⟩ = some (.int .i64 x_ep) := fun y => by
   obtain ⟨L, hL⟩ := y.2
   rw [show y.1 = w1.drew from hL]
   exact CA.out.cell 4
  have m5 : ∀ y : AnyOf (fun (L : Array Bool) (W : World) => W = w1.drew), y.1.cell? ⟨pa, 5, none⟩ = some (.int .i64 x_off) := fun y => by
   obtain ⟨L, hL⟩ := y.2
   rw [show y.1 = w1.drew from hL]
   exact CA.out.cell 5
  have m6 : ∀ y : AnyOf (fun (L : Array Bool) (W : World) => W = w1.drew), y.1.cell? ⟨pa, 6, none⟩ = some (.int .i64 x_high) := fun y => by
   obtain ⟨L, hL⟩ := y.2
   rw [show y.1 = w1.drew from hL]
   exact CA.out.cell 6
  have m7 : ∀ y : AnyOf (fun (L : Array Bool) (W : World) => W = w1.drew), y.1.cell? ⟨pa, 7, none⟩ = some (.int .i64 x_life) := fun y => by
   obtain ⟨L, hL⟩ := y.2
   rw [show y.1 = w1.drew from hL]
   exact CA.out.cell 7
  have hC0 : (fun (L : Array Bool) (W : World) => W = w1.drew) (Array.replicate 47 false) w1.drew := rfl
  have hne : Nonempty (AnyOf (fun (L : Array Bool) (W : World) => W = w1.drew)) := ⟨⟨_, Array.replicate 47 false, hC0⟩⟩
  go_wp2
  refine wp_region_ranks (fun (L : Array Bool) (W : World) => W = w1.drew) _ (by kernel_rfl) (by kernel_rfl) rfl rfl ?_
  refine rQuiet_head 2 (by decide) (by kernel_rfl) (fun i L W h1 h2 hc => hc) ?_
  simp only [List.take_succ_cons, List.take_zero, List.drop_succ_cons, List.drop_zero]
  repeat (go_big_quiet_step (fail))
  refine wpQuiet_nil ?_
  refine rQuiet_call (f := 31) (args := #[.int .i64 x_kind, .int .i64 1, .int .i64 9]) (.bool true) rfl (fun w => by go_simp) (fun L w hD hi hc => (wwithin_any x_kind 1 9 w).mono fun e w' ⟨he, hw⟩ => ⟨by rw [he, G1.out], by rw [hw]; exact hc⟩) ?_
  simp only [Act.put, List.setIfInBounds_toArray, List.set_cons_zero, List.set_cons_succ]
  refine rQuiet_head 4 (by decide) (by kernel_rfl) (fun i L W h1 h2 hc => hc) ?_
  simp only [List.take_succ_cons, List.take_zero, List.drop_succ_cons, List.drop_zero]
  repeat (go_big_quiet_step (fail))
  refine wpQuiet_nil ?_
  refine rQuiet_call (f := 32) (args := #[.int .i64 x_frm]) (.bool true) rfl (fun w => by go_simp) (fun L w hD hi hc => (isUnit_any x_frm w).mono fun e w' ⟨he, hw⟩ => ⟨by rw [he, G2.out], by rw [hw]; exact hc⟩) ?_
  simp only [Act.put, List.setIfInBounds_toArray, List.set_cons_zero, List.set_cons_succ]
  refine rQuiet_head 5 (by decide) (by kernel_rfl) (fun i L W h1 h2 hc => hc) ?_
  simp only [List.take_succ_cons, List.take_zero, List.drop_succ_cons, List.drop_zero]
  repeat (go_big_quiet_step (fail))
  refine wpQuiet_nil ?_
  refine rQuiet_call (f := 32) (args := #[.int .i64 x_to]) (.bool true) rfl (fun w => by go_simp) (fun L w hD hi hc => (isUnit_any x_to w).mono fun e w' ⟨he, hw⟩ => ⟨by rw [he, G3.out], by rw [hw]; exact hc⟩) ?_
  simp only [Act.put, List.setIfInBounds_toArray, List.set_cons_zero, List.set_cons_succ]
  refine rQuiet_head 5 (by decide) (by kernel_rfl) (fun i L W h1 h2 hc => hc) ?_
  simp only [List.take_succ_cons, List.take_zero, List.drop_succ_cons, List.drop_zero]
  repeat (go_big_quiet_step (fail))
  refine wpQuiet_nil ?_
  refine rQuiet_call (f := 31) (args := #[.int .i64 x_part, .int .i64 0, .int .i64 3]) (.bool false) rfl (fun w => by go_simp) (fun L w hD hi hc => (wwithin_any x_part 0 3 w).mono fun e w' ⟨he, hw⟩ => ⟨by rw [he, G4.out], by rw [hw]; exact hc⟩) ?_
  simp only [Act.put, List.setIfInBounds_toArray, List.set_cons_zero, List.set_cons_succ]
  refine rQuiet_head 7 (by decide) (by kernel_rfl) (fun i L W h1 h2 hc => hc) ?_
  simp only [List.take_succ_cons, List.take_zero, List.drop_succ_cons, List.drop_zero]
  repeat (go_big_quiet_step (fail))
  refine wpQuiet_nil ?_
  refine rQuiet_none (by go_simp) (fun L w hD hi hc => hc) ?_
  simp only [Act.put, List.setIfInBounds_toArray, List.set_cons_zero, List.set_cons_succ]
  refine rQuiet_none (by go_simp) (fun L w hD hi hc => hc) ?_
  simp only [Act.put, List.setIfInBounds_toArray, List.set_cons_zero, List.set_cons_succ]
  refine rQuiet_head 7 (by decide) (by kernel_rfl) (fun i L W h1 h2 hc => hc) ?_
  simp only [List.take_succ_cons, List.take_zero, List.drop_succ_cons, List.drop_zero]
  repeat (go_big_quiet_step (fail))
  refine wpQuiet_nil ?_
  refine rQuiet_none (by go_simp) (fun L w hD hi hc => hc) ?_
  simp only [Act.put, List.setIfInBounds_toArray, List.set_cons_zero, List.set_cons_succ]
  refine rQuiet_none (by go_simp) (fun L w hD hi hc => hc) ?_
  simp only [Act.put, List.setIfInBounds_toArray, List.set_cons_zero, List.set_cons_succ]
  refine rQuiet_head 3 (by decide) (by kernel_rfl) (fun i L W h1 h2 hc => hc) ?_
  simp only [List.take_succ_cons, List.take_zero, List.drop_succ_cons, List.drop_zero]
  repeat (go_big_quiet_step (fail))
  refine wpQuiet_nil ?_
  refine rQuiet_none (by go_simp) (fun L w hD hi hc => hc) ?_
  simp only [Act.put, List.setIfInBounds_toArray, List.set_cons_zero, List.set_cons_succ]
  refine rQuiet_none (by go_simp) (fun L w hD hi hc => hc) ?_
  simp only [Act.put, List.setIfInBounds_toArray, List.set_cons_zero, List.set_cons_succ]
  refine rQuiet_none (by go_simp) (fun L w hD hi hc => hc) ?_
  simp only [Act.put, List.setIfInBounds_toArray, List.set_cons_zero, List.set_cons_succ]
  refine rQuiet_none (by go_simp) (fun L w hD hi hc => hc) ?_
  simp only [Act.put, List.setIfInBounds_toArray, List.set_cons_zero, List.set_cons_succ]
  refine rQuiet_head 2 (by decide) (by kernel_rfl) (fun i L W h1 h2 hc => hc) ?_
  simp only [List.take_succ_cons, List.take_zero, List.drop_succ_cons, List.drop_zero]
  repeat (go_big_quiet_step (fail))
  refine wpQuiet_nil ?_
  intro w9 hw9
  have T4 := Lib.hid hw9
  go_wp2
  go_meet
  case rel => exact ⟨rfl, by rw [show w9 = w1.drew from T4.out]; exact (Below.refl _ _).drew⟩
 case rest =>
  obtain ⟨rfl, hwz⟩ := hcut
  have BZ := Lib.hid (BW.out _ hwz)
  clear hwz CA
  go_wp2
  go_ret
  exact ⟨rfl, BZ.out⟩
end Go.Proofs.YtjfpbeccpcbpcaaGreatDoor
