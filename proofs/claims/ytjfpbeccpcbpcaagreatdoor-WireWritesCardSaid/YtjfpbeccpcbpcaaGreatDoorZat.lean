/-
  Wga5 / Wga6: texts of one proof, one behind the other.
  Conditions: none of its own.
-/
import Derived.Test.YtjfpbeccpcbpcaaGreatDoorZah
set_option linter.unusedVariables false
set_option linter.unusedSimpArgs false
namespace Go.Proofs.YtjfpbeccpcbpcaaGreatDoor
open Go.RowKit
structure gB (w1 : World) (e l : Int) (t : TypeId) (L : Array Bool) (W : World) : Prop where
 b : Below w1.heap.size w1 W
 s : L.getD 27 false = false → L.getD 28 false = false → W.heap.size = w1.heap.size
 c1 : L.getD 27 false = true → Cl W w1.heap.size [.int .i64 e, .int .i64 l] t
 z : L.size = 47
theorem gB.set {w1 W : World} {e l : Int} {t : TypeId} {L : Array Bool} (c : gB w1 e l t L W) {i : Nat} (h1 : i ≠ 27) (h2 : i ≠ 28) : gB w1 e l t (L.setIfInBounds i true) W := by
 refine ⟨c.b, ?_, ?_, by rw [Array.size_setIfInBounds]; exact c.z⟩
 ·rw [getD_set_ne false h1, getD_set_ne false h2]; exact c.s
 ·rw [getD_set_ne false h1]; exact c.c1
theorem gB.build {w1 W : World} {e l : Int} {t : TypeId} {L : Array Bool} (c : gB w1 e l t L W) (hs : W.heap.size = w1.heap.size) (h28 : L.getD 28 false = false) :
  gB w1 e l t (L.setIfInBounds 27 true) (W.alloc (.cells #[.int .i64 e, .int .i64 l] t)) := by
 refine ⟨c.b.alloc (by omega) _, fun h => ?_, fun _ => ?_, by rw [Array.size_setIfInBounds]; exact c.z⟩
 ·rw [set_same (by rw [c.z]; decide)] at h; cases h
 ·rw [← hs]; exact Cl.new W _ _
theorem gB.are {w1 W W' : World} {e l : Int} {t : TypeId} {L : Array Bool} (c : gB w1 e l t L W) (hb : Below W.heap.size W W') (h27 : L.getD 27 false = true) : gB w1 e l t (L.setIfInBounds 28 true) W' := by
 refine ⟨bt c.b hb, fun _ h => ?_, fun _ => Cl.below (c.c1 h27) hb, by rw [Array.size_setIfInBounds]; exact c.z⟩
 rw [set_same (by rw [c.z]; decide)] at h; cases h
theorem gB.cell {w1 : World} {e l : Int} {t tm : TypeId} {pa : Nat} {cs : List Value} (CA : Cl w1 pa cs tm) (x : AnyOf (gB w1 e l t)) {k : Nat} {u : Value} (hu : cs[k]? = some u) : x.1.cell? ⟨pa, k, none⟩ = some u := by
 obtain ⟨W, L, hL⟩ := x
 exact ((Cl.below CA hL.b).cell k).trans hu
set_option maxRecDepth 20000 in
set_option maxHeartbeats 12800000 in
theorem good_f5 (m : Wi.Msg) (v : MsgV) (w : World) (h : MsgAt w m v) (ok : MsgOk m) (h1 : Wi.inB m.kind 1 9 = true) (h2 : Wi.unitB m.frm = true) (h3 : Wi.unitB m.«to» = true) (h4 : Wi.inB m.part 0 3 = true) (h5 : Wi.areB 0 1073741824 [m.ep, m.life] = false) :
  Calls Tryz.prog 13 #[msgV m v] w fun e w' => e = .returned (.bool false) ∧ Below w.heap.size w w' := by
 have HM := Lib.hid h
 have HO := Lib.hid ok
 obtain ⟨s0, c0, hh0⟩ := h.chain.form
 obtain ⟨s1, c1, hh1⟩ := h.lives.form
 obtain ⟨s2, c2, hh2⟩ := h.brecs.form
 obtain ⟨s3, c3, hh3⟩ := h.table.form
 obtain ⟨s4, c4, hh4⟩ := h.qrecs.form
 obtain ⟨s5, c5, hh5⟩ := h.parts.form
 obtain ⟨s6, c6, hh6⟩ := h.arecs.form
 obtain ⟨v0, v1, v2, v3, v4, v5, v6⟩ := v
 dsimp only at hh0 hh1 hh2 hh3 hh4 hh5 hh6
 subst hh0 hh1 hh2 hh3 hh4 hh5 hh6
 obtain ⟨x_kind, x_frm, x_to, x_part, x_ep, x_off, x_high, x_life, x_pep, x_chain, x_learner, x_lives, x_batch, x_table, x_req, x_resp⟩ := m
 dsimp only at *
 clear h ok
 have HK : Hid (1 ≤ x_kind ∧ x_kind ≤ 9) := by simpa [Hid, Wi.inB] using h1
 have G1 := Lib.hid h1
 have G2 := Lib.hid h2
 have G3 := Lib.hid h3
 have G4 := Lib.hid h4
 have G5 := Lib.hid h5
 clear h1 h2 h3 h4 h5
 have HI38 := Lib.hid (show (Tryz.prog.info? 36).map (·.size) = some ((.int .i64 x_kind :: .int .i64 x_frm :: .int .i64 x_to :: .int .i64 x_part :: .int .i64 x_ep :: .int .i64 x_off :: .int .i64 x_high :: .int .i64 x_life :: .int .i64 x_pep :: .slice s0 x_chain.length c0 :: .int .i64 x_learner :: .slice s1 x_lives.length c1 :: .int .i64 x_batch.base :: .int .i64 x_batch.count :: .int .i64 x_batch.prod :: .int .i64 x_batch.seq :: .int .i64 x_batch.time :: .slice s2 x_batch.recs.length c2 :: .slice s3 x_table.length c3 :: .int .i64 x_req.client :: .int .i64 x_req.n :: .int .i64 x_req.kind :: .int .i64 x_req.part :: .int .i64 x_req.seq :: .int .i64 x_req.off :: .int .i64 x_req.max :: .int .i64 x_req.gen :: .string ⟨x_req.group.toArray⟩ :: .string ⟨x_req.member.toArray⟩ :: .slice s4 x_req.recs.length c4 :: .int .i64 x_resp.client :: .int .i64 x_resp.n :: .int .i64 x_resp.code :: .int .i64 x_resp.off :: .int .i64 x_resp.high :: .int .i64 x_resp.gen :: .slice s5 x_resp.parts.length c5 :: .slice s6 x_resp.recs.length c6 :: []) : List Value).length by kernel_rfl)
 unfold msgV msgC
 dsimp only
 go_enter Tryz.func13, Tryz.ntmps13
 obtain ⟨w1, hw1, CA, B1⟩ := oneBox (w := w) (.int .i64 x_kind :: .int .i64 x_frm :: .int .i64 x_to :: .int .i64 x_part :: .int .i64 x_ep :: .int .i64 x_off :: .int .i64 x_high :: .int .i64 x_life :: .int .i64 x_pep :: .slice s0 x_chain.length c0 :: .int .i64 x_learner :: .slice s1 x_lives.length c1 :: .int .i64 x_batch.base :: .int .i64 x_batch.count :: .int .i64 x_batch.prod :: .int .i64 x_batch.seq :: .int .i64 x_batch.time :: .slice s2 x_batch.recs.length c2 :: .slice s3 x_table.length c3 :: .int .i64 x_req.client :: .int .i64 x_req.n :: .int .i64 x_req.kind :: .int .i64 x_req.part :: .int .i64 x_req.seq :: .int .i64 x_req.off :: .int .i64 x_req.max :: .int .i64 x_req.gen :: .string ⟨x_req.group.toArray⟩ :: .string ⟨x_req.member.toArray⟩ :: .slice s4 x_req.recs.length c4 :: .int .i64 x_resp.client :: .int .i64 x_resp.n :: .int .i64 x_resp.code :: .int .i64 x_resp.off :: .int .i64 x_resp.high :: .int .i64 x_resp.gen :: .slice s5 x_resp.parts.length c5 :: .slice s6 x_resp.recs.length c6 :: []) 36
 have HW1 := Lib.hid hw1
 clear hw1
 go_upto_region 1 with (fail)
 first | rw [HW1.out] | skip
 clear HW1
 have M1 := Lib.hid (HM.out.kept B1.out)
 have BW : Hid (∀ W, Below w1.heap.size w1 W → Below w.heap.size w W) := fun W h => bt B1.out h
 generalize w.heap.size = pa at CA ⊢
 clear HM
 go_cut [51] (fun t51 wz => t51 = .bool true ∧ Below w1.heap.size w1 wz)
 case first =>
  have m0 := fun x : AnyOf (gB w1 x_ep x_life 3) => gB.cell CA.out x (k := 0) rfl
  have m1 := fun x : AnyOf (gB w1 x_ep x_life 3) => gB.cell CA.out x (k := 1) rfl
  have m2 := fun x : AnyOf (gB w1 x_ep x_life 3) => gB.cell CA.out x (k := 2) rfl
  have m3 := fun x : AnyOf (gB w1 x_ep x_life 3) => gB.cell CA.out x (k := 3) rfl
  have m4 := fun x : AnyOf (gB w1 x_ep x_life 3) => gB.cell CA.out x (k := 4) rfl
  have m5 := fun x : AnyOf (gB w1 x_ep x_life 3) => gB.cell CA.out x (k := 5) rfl
  have m6 := fun x : AnyOf (gB w1 x_ep x_life 3) => gB.cell CA.out x (k := 6) rfl
  have m7 := fun x : AnyOf (gB w1 x_ep x_life 3) => gB.cell CA.out x (k := 7) rfl
  have hC0 : (gB w1 x_ep x_life 3) (Array.replicate 47 false) w1.drew := ⟨(Below.refl _ _).drew, fun _ _ => rfl, fun h => (by simp at h), by simp⟩
  have hne : Nonempty (AnyOf (gB w1 x_ep x_life 3)) := ⟨⟨_, Array.replicate 47 false, hC0⟩⟩
  go_wp2
  refine wp_region_ranks (gB w1 x_ep x_life 3) _ (by kernel_rfl) (by kernel_rfl) rfl hC0 ?_
  refine rQuiet_head 2 (by decide) (by kernel_rfl) (fun i L W h1 h2 hc => hc.set (by omega) (by omega)) ?_
  simp only [List.take_succ_cons, List.take_zero, List.drop_succ_cons, List.drop_zero]
  repeat (go_big_quiet_step (fail))
  refine wpQuiet_nil ?_
  refine rQuiet_call (f := 31) (args := #[.int .i64 x_kind, .int .i64 1, .int .i64 9]) (.bool true) rfl (fun w => by go_simp) (fun L w hD hi hc => (wwithin_any x_kind 1 9 w).mono fun e w' ⟨he, hw⟩ => ⟨by rw [he, G1.out], by rw [hw]; exact hc.set (by omega) (by omega)⟩) ?_
  simp only [Act.put, List.setIfInBounds_toArray, List.set_cons_zero, List.set_cons_succ]
  refine rQuiet_head 4 (by decide) (by kernel_rfl) (fun i L W h1 h2 hc => hc.set (by omega) (by omega)) ?_
  simp only [List.take_succ_cons, List.take_zero, List.drop_succ_cons, List.drop_zero]
  repeat (go_big_quiet_step (fail))
  refine wpQuiet_nil ?_
  refine rQuiet_call (f := 32) (args := #[.int .i64 x_frm]) (.bool true) rfl (fun w => by go_simp) (fun L w hD hi hc => (isUnit_any x_frm w).mono fun e w' ⟨he, hw⟩ => ⟨by rw [he, G2.out], by rw [hw]; exact hc.set (by omega) (by omega)⟩) ?_
  simp only [Act.put, List.setIfInBounds_toArray, List.set_cons_zero, List.set_cons_succ]
  refine rQuiet_head 5 (by decide) (by kernel_rfl) (fun i L W h1 h2 hc => hc.set (by omega) (by omega)) ?_
  simp only [List.take_succ_cons, List.take_zero, List.drop_succ_cons, List.drop_zero]
  repeat (go_big_quiet_step (fail))
  refine wpQuiet_nil ?_
  refine rQuiet_call (f := 32) (args := #[.int .i64 x_to]) (.bool true) rfl (fun w => by go_simp) (fun L w hD hi hc => (isUnit_any x_to w).mono fun e w' ⟨he, hw⟩ => ⟨by rw [he, G3.out], by rw [hw]; exact hc.set (by omega) (by omega)⟩) ?_
  simp only [Act.put, List.setIfInBounds_toArray, List.set_cons_zero, List.set_cons_succ]
  refine rQuiet_head 5 (by decide) (by kernel_rfl) (fun i L W h1 h2 hc => hc.set (by omega) (by omega)) ?_
  simp only [List.take_succ_cons, List.take_zero, List.drop_succ_cons, List.drop_zero]
  repeat (go_big_quiet_step (fail))
  refine wpQuiet_nil ?_
  refine rQuiet_call (f := 31) (args := #[.int .i64 x_part, .int .i64 0, .int .i64 3]) (.bool true) rfl (fun w => by go_simp) (fun L w hD hi hc => (wwithin_any x_part 0 3 w).mono fun e w' ⟨he, hw⟩ => ⟨by rw [he, G4.out], by rw [hw]; exact hc.set (by omega) (by omega)⟩) ?_
  simp only [Act.put, List.setIfInBounds_toArray, List.set_cons_zero, List.set_cons_succ]
  refine rQuiet_head 7 (by decide) (by kernel_rfl) (fun i L W h1 h2 hc => hc.set (by omega) (by omega)) ?_
  simp only [List.take_succ_cons, List.take_zero, List.drop_succ_cons, List.drop_zero]
  repeat (go_big_quiet_step (fail))
  refine wpQuiet_nil ?_
  refine rQuiet_value (.slice (some ⟨w1.heap.size, 0, none⟩) 2 2) (fun W => W.alloc (.cells #[.int .i64 x_ep, .int .i64 x_life] 3)) rfl (fun L w hD hi hc => ?_) ?_
  ·have h27 := ready_not hi
   have h28 : L.getD 28 false = false := no_of (fun h => hD.wait (j := 28) (i := 27) (by kernel_rfl) h) h27
   have hs := hc.s h27 h28
   refine ⟨by rw [← hs]; go_simp, ?_⟩
   exact hc.build hs h28
  simp only [Act.put, List.setIfInBounds_toArray, List.set_cons_zero, List.set_cons_succ]
  refine rQuiet_call (f := 33) (args := #[.int .i64 0, .int .i64 1073741824, .slice (some ⟨w1.heap.size, 0, none⟩) 2 2]) (.bool false) rfl (fun w => by go_simp) (fun L w hD hi hc => ?_) ?_
  ·have h27 := ready_wait hi (i := 27) (by kernel_rfl)
   exact (are_sz [x_ep, x_life] (by simp [maxLen]) _ 0 1073741824 w (ints2_cl (hc.c1 h27))).mono fun e w' ⟨he, hb, hz⟩ => ⟨by rw [he, G5.out], hc.are hb h27⟩
  simp only [Act.put, List.setIfInBounds_toArray, List.set_cons_zero, List.set_cons_succ]
  refine rQuiet_head 7 (by decide) (by kernel_rfl) (fun i L W h1 h2 hc => hc.set (by omega) (by omega)) ?_
  simp only [List.take_succ_cons, List.take_zero, List.drop_succ_cons, List.drop_zero]
  repeat (go_big_quiet_step (fail))
  refine wpQuiet_nil ?_
  refine rQuiet_none (by go_simp) (fun L w hD hi hc => hc.set (by omega) (by omega)) ?_
  simp only [Act.put, List.setIfInBounds_toArray, List.set_cons_zero, List.set_cons_succ]
  refine rQuiet_none (by go_simp) (fun L w hD hi hc => hc.set (by omega) (by omega)) ?_
  simp only [Act.put, List.setIfInBounds_toArray, List.set_cons_zero, List.set_cons_succ]
  refine rQuiet_head 3 (by decide) (by kernel_rfl) (fun i L W h1 h2 hc => hc.set (by omega) (by omega)) ?_
  simp only [List.take_succ_cons, List.take_zero, List.drop_succ_cons, List.drop_zero]
  repeat (go_big_quiet_step (fail))
  refine wpQuiet_nil ?_
  refine rQuiet_none (by go_simp) (fun L w hD hi hc => hc.set (by omega) (by omega)) ?_
  simp only [Act.put, List.setIfInBounds_toArray, List.set_cons_zero, List.set_cons_succ]
  refine rQuiet_none (by go_simp) (fun L w hD hi hc => hc.set (by omega) (by omega)) ?_
  simp only [Act.put, List.setIfInBounds_toArray, List.set_cons_zero, List.set_cons_succ]
  refine rQuiet_none (by go_simp) (fun L w hD hi hc => hc.set (by omega) (by omega)) ?_
  simp only [Act.put, List.setIfInBounds_toArray, List.set_cons_zero, List.set_cons_succ]
  refine rQuiet_none (by go_simp) (fun L w hD hi hc => hc.set (by omega) (by omega)) ?_
  simp only [Act.put, List.setIfInBounds_toArray, List.set_cons_zero, List.set_cons_succ]
  refine rQuiet_head 2 (by decide) (by kernel_rfl) (fun i L W h1 h2 hc => hc.set (by omega) (by omega)) ?_
  simp only [List.take_succ_cons, List.take_zero, List.drop_succ_cons, List.drop_zero]
  repeat (go_big_quiet_step (fail))
  refine wpQuiet_nil ?_
  intro w9 hw9
  have T4 := Lib.hid hw9.b
  go_wp2
  go_meet
  case rel => exact ⟨rfl, T4.out⟩
 case rest =>
  obtain ⟨rfl, hwz⟩ := hcut
  have BZ := Lib.hid (BW.out _ hwz)
  clear hwz CA
  go_wp2
  go_ret
  exact ⟨rfl, BZ.out⟩
end Go.Proofs.YtjfpbeccpcbpcaaGreatDoor
namespace Go.Proofs.YtjfpbeccpcbpcaaGreatDoor
open Go.RowKit
set_option maxRecDepth 20000 in
set_option maxHeartbeats 12800000 in
theorem good_f6 (m : Wi.Msg) (v : MsgV) (w : World) (h : MsgAt w m v) (ok : MsgOk m) (h1 : Wi.inB m.kind 1 9 = true) (h2 : Wi.unitB m.frm = true) (h3 : Wi.unitB m.«to» = true) (h4 : Wi.inB m.part 0 3 = true) (h5 : Wi.areB 0 1073741824 [m.ep, m.life] = true) (h6 : Wi.areB (-1) 1099511627776 [m.off, m.high] = false) :
  Calls Tryz.prog 13 #[msgV m v] w fun e w' => e = .returned (.bool false) ∧ Below w.heap.size w w' := by
 have HM := Lib.hid h
 have HO := Lib.hid ok
 obtain ⟨s0, c0, hh0⟩ := h.chain.form
 obtain ⟨s1, c1, hh1⟩ := h.lives.form
 obtain ⟨s2, c2, hh2⟩ := h.brecs.form
 obtain ⟨s3, c3, hh3⟩ := h.table.form
 obtain ⟨s4, c4, hh4⟩ := h.qrecs.form
 obtain ⟨s5, c5, hh5⟩ := h.parts.form
 obtain ⟨s6, c6, hh6⟩ := h.arecs.form
 obtain ⟨v0, v1, v2, v3, v4, v5, v6⟩ := v
 dsimp only at hh0 hh1 hh2 hh3 hh4 hh5 hh6
 subst hh0 hh1 hh2 hh3 hh4 hh5 hh6
 obtain ⟨x_kind, x_frm, x_to, x_part, x_ep, x_off, x_high, x_life, x_pep, x_chain, x_learner, x_lives, x_batch, x_table, x_req, x_resp⟩ := m
 dsimp only at *
 clear h ok
 have HK : Hid (1 ≤ x_kind ∧ x_kind ≤ 9) := by simpa [Hid, Wi.inB] using h1
 have G1 := Lib.hid h1
 have G2 := Lib.hid h2
 have G3 := Lib.hid h3
 have G4 := Lib.hid h4
 have G5 := Lib.hid h5
 have G6 := Lib.hid h6
 clear h1 h2 h3 h4 h5 h6
 have HI38 := Lib.hid (show (Tryz.prog.info? 36).map (·.size) = some ((.int .i64 x_kind :: .int .i64 x_frm :: .int .i64 x_to :: .int .i64 x_part :: .int .i64 x_ep :: .int .i64 x_off :: .int .i64 x_high :: .int .i64 x_life :: .int .i64 x_pep :: .slice s0 x_chain.length c0 :: .int .i64 x_learner :: .slice s1 x_lives.length c1 :: .int .i64 x_batch.base :: .int .i64 x_batch.count :: .int .i64 x_batch.prod :: .int .i64 x_batch.seq :: .int .i64 x_batch.time :: .slice s2 x_batch.recs.length c2 :: .slice s3 x_table.length c3 :: .int .i64 x_req.client :: .int .i64 x_req.n :: .int .i64 x_req.kind :: .int .i64 x_req.part :: .int .i64 x_req.seq :: .int .i64 x_req.off :: .int .i64 x_req.max :: .int .i64 x_req.gen :: .string ⟨x_req.group.toArray⟩ :: .string ⟨x_req.member.toArray⟩ :: .slice s4 x_req.recs.length c4 :: .int .i64 x_resp.client :: .int .i64 x_resp.n :: .int .i64 x_resp.code :: .int .i64 x_resp.off :: .int .i64 x_resp.high :: .int .i64 x_resp.gen :: .slice s5 x_resp.parts.length c5 :: .slice s6 x_resp.recs.length c6 :: []) : List Value).length by kernel_rfl)
 unfold msgV msgC
 dsimp only
 go_enter Tryz.func13, Tryz.ntmps13
 obtain ⟨w1, hw1, CA, B1⟩ := oneBox (w := w) (.int .i64 x_kind :: .int .i64 x_frm :: .int .i64 x_to :: .int .i64 x_part :: .int .i64 x_ep :: .int .i64 x_off :: .int .i64 x_high :: .int .i64 x_life :: .int .i64 x_pep :: .slice s0 x_chain.length c0 :: .int .i64 x_learner :: .slice s1 x_lives.length c1 :: .int .i64 x_batch.base :: .int .i64 x_batch.count :: .int .i64 x_batch.prod :: .int .i64 x_batch.seq :: .int .i64 x_batch.time :: .slice s2 x_batch.recs.length c2 :: .slice s3 x_table.length c3 :: .int .i64 x_req.client :: .int .i64 x_req.n :: .int .i64 x_req.kind :: .int .i64 x_req.part :: .int .i64 x_req.seq :: .int .i64 x_req.off :: .int .i64 x_req.max :: .int .i64 x_req.gen :: .string ⟨x_req.group.toArray⟩ :: .string ⟨x_req.member.toArray⟩ :: .slice s4 x_req.recs.length c4 :: .int .i64 x_resp.client :: .int .i64 x_resp.n :: .int .i64 x_resp.code :: .int .i64 x_resp.off :: .int .i64 x_resp.high :: .int .i64 x_resp.gen :: .slice s5 x_resp.parts.length c5 :: .slice s6 x_resp.recs.length c6 :: []) 36
 have HW1 := Lib.hid hw1
 clear hw1
 go_upto_region 1 with (fail)
 first | rw [HW1.out] | skip
 clear HW1
 have M1 := Lib.hid (HM.out.kept B1.out)
 have BW : Hid (∀ W, Below w1.heap.size w1 W → Below w.heap.size w W) := fun W h => bt B1.out h
 generalize w.heap.size = pa at CA ⊢
 clear HM
 go_cut [51] (fun t51 wz => t51 = .bool true ∧ Below w1.heap.size w1 wz)
 case first =>
  have m0 := fun x : AnyOf (gC w1 x_ep x_life x_off x_high 3) => gC.cell CA.out x (k := 0) rfl
  have m1 := fun x : AnyOf (gC w1 x_ep x_life x_off x_high 3) => gC.cell CA.out x (k := 1) rfl
  have m2 := fun x : AnyOf (gC w1 x_ep x_life x_off x_high 3) => gC.cell CA.out x (k := 2) rfl
  have m3 := fun x : AnyOf (gC w1 x_ep x_life x_off x_high 3) => gC.cell CA.out x (k := 3) rfl
  have m4 := fun x : AnyOf (gC w1 x_ep x_life x_off x_high 3) => gC.cell CA.out x (k := 4) rfl
  have m5 := fun x : AnyOf (gC w1 x_ep x_life x_off x_high 3) => gC.cell CA.out x (k := 5) rfl
  have m6 := fun x : AnyOf (gC w1 x_ep x_life x_off x_high 3) => gC.cell CA.out x (k := 6) rfl
  have m7 := fun x : AnyOf (gC w1 x_ep x_life x_off x_high 3) => gC.cell CA.out x (k := 7) rfl
  have hC0 : (gC w1 x_ep x_life x_off x_high 3) (Array.replicate 47 false) w1.drew := ⟨(Below.refl _ _).drew, fun _ => rfl, fun h => (by simp at h), fun h => (by simp at h), by simp⟩
  have hne : Nonempty (AnyOf (gC w1 x_ep x_life x_off x_high 3)) := ⟨⟨_, Array.replicate 47 false, hC0⟩⟩
  go_wp2
  refine wp_region_ranks (gC w1 x_ep x_life x_off x_high 3) _ (by kernel_rfl) (by kernel_rfl) rfl hC0 ?_
  refine rQuiet_head 2 (by decide) (by kernel_rfl) (fun i L W h1 h2 hc => hc.set (by omega) (by omega) (by omega) (by omega) (by omega)) ?_
  simp only [List.take_succ_cons, List.take_zero, List.drop_succ_cons, List.drop_zero]
  repeat (go_big_quiet_step (fail))
  refine wpQuiet_nil ?_
  refine rQuiet_call (f := 31) (args := #[.int .i64 x_kind, .int .i64 1, .int .i64 9]) (.bool true) rfl (fun w => by go_simp) (fun L w hD hi hc => (wwithin_any x_kind 1 9 w).mono fun e w' ⟨he, hw⟩ => ⟨by rw [he, G1.out], by rw [hw]; exact hc.set (by omega) (by omega) (by omega) (by omega) (by omega)⟩) ?_
  simp only [Act.put, List.setIfInBounds_toArray, List.set_cons_zero, List.set_cons_succ]
  refine rQuiet_head 4 (by decide) (by kernel_rfl) (fun i L W h1 h2 hc => hc.set (by omega) (by omega) (by omega) (by omega) (by omega)) ?_
  simp only [List.take_succ_cons, List.take_zero, List.drop_succ_cons, List.drop_zero]
  repeat (go_big_quiet_step (fail))
  refine wpQuiet_nil ?_
  refine rQuiet_call (f := 32) (args := #[.int .i64 x_frm]) (.bool true) rfl (fun w => by go_simp) (fun L w hD hi hc => (isUnit_any x_frm w).mono fun e w' ⟨he, hw⟩ => ⟨by rw [he, G2.out], by rw [hw]; exact hc.set (by omega) (by omega) (by omega) (by omega) (by omega)⟩) ?_
  simp only [Act.put, List.setIfInBounds_toArray, List.set_cons_zero, List.set_cons_succ]
  refine rQuiet_head 5 (by decide) (by kernel_rfl) (fun i L W h1 h2 hc => hc.set (by omega) (by omega) (by omega) (by omega) (by omega)) ?_
  simp only [List.take_succ_cons, List.take_zero, List.drop_succ_cons, List.drop_zero]
  repeat (go_big_quiet_step (fail))
  refine wpQuiet_nil ?_
  refine rQuiet_call (f := 32) (args := #[.int .i64 x_to]) (.bool true) rfl (fun w => by go_simp) (fun L w hD hi hc => (isUnit_any x_to w).mono fun e w' ⟨he, hw⟩ => ⟨by rw [he, G3.out], by rw [hw]; exact hc.set (by omega) (by omega) (by omega) (by omega) (by omega)⟩) ?_
  simp only [Act.put, List.setIfInBounds_toArray, List.set_cons_zero, List.set_cons_succ]
  refine rQuiet_head 5 (by decide) (by kernel_rfl) (fun i L W h1 h2 hc => hc.set (by omega) (by omega) (by omega) (by omega) (by omega)) ?_
  simp only [List.take_succ_cons, List.take_zero, List.drop_succ_cons, List.drop_zero]
  repeat (go_big_quiet_step (fail))
  refine wpQuiet_nil ?_
  refine rQuiet_call (f := 31) (args := #[.int .i64 x_part, .int .i64 0, .int .i64 3]) (.bool true) rfl (fun w => by go_simp) (fun L w hD hi hc => (wwithin_any x_part 0 3 w).mono fun e w' ⟨he, hw⟩ => ⟨by rw [he, G4.out], by rw [hw]; exact hc.set (by omega) (by omega) (by omega) (by omega) (by omega)⟩) ?_
  simp only [Act.put, List.setIfInBounds_toArray, List.set_cons_zero, List.set_cons_succ]
  refine rQuiet_head 7 (by decide) (by kernel_rfl) (fun i L W h1 h2 hc => hc.set (by omega) (by omega) (by omega) (by omega) (by omega)) ?_
  simp only [List.take_succ_cons, List.take_zero, List.drop_succ_cons, List.drop_zero]
  repeat (go_big_quiet_step (fail))
  refine wpQuiet_nil ?_
  refine rQuiet_value (.slice (some ⟨w1.heap.size, 0, none⟩) 2 2) (fun W => W.alloc (.cells #[.int .i64 x_ep, .int .i64 x_life] 3)) rfl (fun L w hD hi hc => ?_) ?_
  ·have h27 := ready_not hi
   have h28 : L.getD 28 false = false := no_of (fun h => hD.wait (j := 28) (i := 27) (by kernel_rfl) h) h27
   have h36 : L.getD 36 false = false := no_of (fun h => hD.wait (j := 29) (i := 28) (by kernel_rfl) (hD.wait (j := 30) (i := 29) (by kernel_rfl) (hD.wait (j := 31) (i := 30) (by kernel_rfl) (hD.wait (j := 36) (i := 31) (by kernel_rfl) h)))) h28
   have h37 : L.getD 37 false = false := no_of (fun h => hD.wait (j := 37) (i := 36) (by kernel_rfl) h) h36
   have h43 : L.getD 43 false = false := no_of (fun h => hD.wait (j := 38) (i := 37) (by kernel_rfl) (hD.wait (j := 39) (i := 38) (by kernel_rfl) (hD.wait (j := 40) (i := 39) (by kernel_rfl) (hD.wait (j := 43) (i := 40) (by kernel_rfl) h)))) h37
   have hs := hc.s h43
   rw [gcnt, h27, h28, h36, h37] at hs
   have hs : w.heap.size = w1.heap.size := by simpa using hs
   refine ⟨by rw [← hs]; go_simp, ?_⟩
   exact hc.build1 hs h28 h36 h37
  simp only [Act.put, List.setIfInBounds_toArray, List.set_cons_zero, List.set_cons_succ]
  refine rQuiet_call (f := 33) (args := #[.int .i64 0, .int .i64 1073741824, .slice (some ⟨w1.heap.size, 0, none⟩) 2 2]) (.bool true) rfl (fun w => by go_simp) (fun L w hD hi hc => ?_) ?_
  ·have h28 := ready_not hi
   have h27 := ready_wait hi (i := 27) (by kernel_rfl)
   have h36 : L.getD 36 false = false := no_of (fun h => hD.wait (j := 29) (i := 28) (by kernel_rfl) (hD.wait (j := 30) (i := 29) (by kernel_rfl) (hD.wait (j := 31) (i := 30) (by kernel_rfl) (hD.wait (j := 36) (i := 31) (by kernel_rfl) h)))) h28
   have h37 : L.getD 37 false = false := no_of (fun h => hD.wait (j := 37) (i := 36) (by kernel_rfl) h) h36
   have h43 : L.getD 43 false = false := no_of (fun h => hD.wait (j := 38) (i := 37) (by kernel_rfl) (hD.wait (j := 39) (i := 38) (by kernel_rfl) (hD.wait (j := 40) (i := 39) (by kernel_rfl) (hD.wait (j := 43) (i := 40) (by kernel_rfl) h)))) h37
   exact (are_sz [x_ep, x_life] (by simp [maxLen]) _ 0 1073741824 w (ints2_cl (hc.c1 h27))).mono fun e w' ⟨he, hb, hz⟩ => ⟨by rw [he, G5.out], hc.are1 hb hz h27 h28 h36 h37 h43⟩
  simp only [Act.put, List.setIfInBounds_toArray, List.set_cons_zero, List.set_cons_succ]
  refine rQuiet_head 7 (by decide) (by kernel_rfl) (fun i L W h1 h2 hc => hc.set (by omega) (by omega) (by omega) (by omega) (by omega)) ?_
  simp only [List.take_succ_cons, List.take_zero, List.drop_succ_cons, List.drop_zero]
  repeat (go_big_quiet_step (fail))
  refine wpQuiet_nil ?_
  refine rQuiet_value (.slice (some ⟨w1.heap.size + 3, 0, none⟩) 2 2) (fun W => W.alloc (.cells #[.int .i64 x_off, .int .i64 x_high] 3)) rfl (fun L w hD hi hc => ?_) ?_
  ·have h36 := ready_not hi
   have h28 : L.getD 28 false = true := hD.wait (j := 29) (i := 28) (by kernel_rfl) (hD.wait (j := 30) (i := 29) (by kernel_rfl) (hD.wait (j := 31) (i := 30) (by kernel_rfl) (ready_wait hi (i := 31) (by kernel_rfl))))
   have h27 : L.getD 27 false = true := hD.wait (j := 28) (i := 27) (by kernel_rfl) h28
   have h37 : L.getD 37 false = false := no_of (fun h => hD.wait (j := 37) (i := 36) (by kernel_rfl) h) h36
   have h43 : L.getD 43 false = false := no_of (fun h => hD.wait (j := 38) (i := 37) (by kernel_rfl) (hD.wait (j := 39) (i := 38) (by kernel_rfl) (hD.wait (j := 40) (i := 39) (by kernel_rfl) (hD.wait (j := 43) (i := 40) (by kernel_rfl) h)))) h37
   have hs := hc.s h43
   rw [gcnt, h27, h28, h36, h37] at hs
   have hs : w.heap.size = w1.heap.size + 3 := by simpa using hs
   refine ⟨by rw [← hs]; go_simp, ?_⟩
   exact hc.build2 hs h27 h28 h37
  simp only [Act.put, List.setIfInBounds_toArray, List.set_cons_zero, List.set_cons_succ]
  refine rQuiet_call (f := 33) (args := #[.int .i64 (-1), .int .i64 1099511627776, .slice (some ⟨w1.heap.size + 3, 0, none⟩) 2 2]) (.bool false) rfl (fun w => by go_simp) (fun L w hD hi hc => ?_) ?_
  ·have h37 := ready_not hi
   have h36 := ready_wait hi (i := 36) (by kernel_rfl)
   have h28 : L.getD 28 false = true := hD.wait (j := 29) (i := 28) (by kernel_rfl) (hD.wait (j := 30) (i := 29) (by kernel_rfl) (hD.wait (j := 31) (i := 30) (by kernel_rfl) (hD.wait (j := 36) (i := 31) (by kernel_rfl) h36)))
   have h27 : L.getD 27 false = true := hD.wait (j := 28) (i := 27) (by kernel_rfl) h28
   have h43 : L.getD 43 false = false := no_of (fun h => hD.wait (j := 38) (i := 37) (by kernel_rfl) (hD.wait (j := 39) (i := 38) (by kernel_rfl) (hD.wait (j := 40) (i := 39) (by kernel_rfl) (hD.wait (j := 43) (i := 40) (by kernel_rfl) h)))) h37
   exact (are_sz [x_off, x_high] (by simp [maxLen]) _ (-1) 1099511627776 w (ints2_cl (hc.c2 h36))).mono fun e w' ⟨he, hb, hz⟩ => ⟨by rw [he, G6.out], hc.are2 hb hz h27 h28 h36 h37 h43⟩
  simp only [Act.put, List.setIfInBounds_toArray, List.set_cons_zero, List.set_cons_succ]
  refine rQuiet_head 3 (by decide) (by kernel_rfl) (fun i L W h1 h2 hc => hc.set (by omega) (by omega) (by omega) (by omega) (by omega)) ?_
  simp only [List.take_succ_cons, List.take_zero, List.drop_succ_cons, List.drop_zero]
  repeat (go_big_quiet_step (fail))
  refine wpQuiet_nil ?_
  refine rQuiet_none (by go_simp) (fun L w hD hi hc => hc.set (by omega) (by omega) (by omega) (by omega) (by omega)) ?_
  simp only [Act.put, List.setIfInBounds_toArray, List.set_cons_zero, List.set_cons_succ]
  refine rQuiet_none (by go_simp) (fun L w hD hi hc => hc.set (by omega) (by omega) (by omega) (by omega) (by omega)) ?_
  simp only [Act.put, List.setIfInBounds_toArray, List.set_cons_zero, List.set_cons_succ]
  refine rQuiet_none (by go_simp) (fun L w hD hi hc => hc.only (Below.refl _ _)) ?_
  simp only [Act.put, List.setIfInBounds_toArray, List.set_cons_zero, List.set_cons_succ]
  refine rQuiet_none (by go_simp) (fun L w hD hi hc => hc.set (by omega) (by omega) (by omega) (by omega) (by omega)) ?_
  simp only [Act.put, List.setIfInBounds_toArray, List.set_cons_zero, List.set_cons_succ]
  refine rQuiet_head 2 (by decide) (by kernel_rfl) (fun i L W h1 h2 hc => hc.set (by omega) (by omega) (by omega) (by omega) (by omega)) ?_
  simp only [List.take_succ_cons, List.take_zero, List.drop_succ_cons, List.drop_zero]
  repeat (go_big_quiet_step (fail))
  refine wpQuiet_nil ?_
  intro w9 hw9
  have T4 := Lib.hid hw9.b
  go_wp2
  go_meet
  case rel => exact ⟨rfl, T4.out⟩
 case rest =>
  obtain ⟨rfl, hwz⟩ := hcut
  have BZ := Lib.hid (BW.out _ hwz)
  clear hwz CA
  go_wp2
  go_ret
  exact ⟨rfl, BZ.out⟩
end Go.Proofs.YtjfpbeccpcbpcaaGreatDoor
