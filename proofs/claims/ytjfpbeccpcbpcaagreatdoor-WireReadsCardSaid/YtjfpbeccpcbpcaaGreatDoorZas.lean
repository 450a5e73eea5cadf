/-
  Wga7 / Wg0 / Wgb / Crc / Num: texts of one proof, one behind the other.
  Conditions: none of its own.
-/
import Derived.Test.YtjfpbeccpcbpcaaGreatDoorZaq
import Derived.Test.YtjfpbeccpcbpcaaGreatDoorZar
set_option linter.unusedVariables false
set_option linter.unusedSimpArgs false
set_option maxHeartbeats 12800000
set_option maxRecDepth 20000
namespace Go.Proofs.YtjfpbeccpcbpcaaGreatDoor
open Go.RowKit
theorem good_f7 (m : Wi.Msg) (v : MsgV) (w : World) (h : MsgAt w m v) (ok : MsgOk m) (h1 : Wi.inB m.kind 1 9 = true) (h2 : Wi.unitB m.frm = true) (h3 : Wi.unitB m.«to» = true) (h4 : Wi.inB m.part 0 3 = true) (h5 : Wi.areB 0 1073741824 [m.ep, m.life] = true) (h6 : Wi.areB (-1) 1099511627776 [m.off, m.high] = true) (h7 : Wi.same m (Wi.only m) = false) :
  Calls Tryz.prog 13 #[msgV m v] w fun e w' => e = .returned (.bool false) ∧ Below w.heap.size w w' := by
 have HM := hq' h
 have HO := hq' ok
 obtain ⟨s0, c0, s1, c1, s2, c2, s3, c3, s4, c4, s5, c5, s6, c6, rfl⟩ := h.slices
 obtain ⟨x_kind, x_frm, x_to, x_part, x_ep, x_off, x_high, x_life, x_pep, x_chain, x_learner, x_lives, x_batch, x_table, x_req, x_resp⟩ := m
 dsimp only at *
 clear h ok
 have HK : Hid (1 ≤ x_kind ∧ x_kind ≤ 9) := by simpa [Hid, Wi.inB] using h1
 have G1 := hq' h1
 have G2 := hq' h2
 have G3 := hq' h3
 have G4 := hq' h4
 have G5 := hq' h5
 have G6 := hq' h6
 have G7 := hq' h7
 clear h1 h2 h3 h4 h5 h6 h7
 have HI38 := hq' (show (Tryz.prog.info? 36).map (·.size) = some ((.int .i64 x_kind :: .int .i64 x_frm :: .int .i64 x_to :: xt x_part x_ep x_off x_high x_life x_pep x_chain x_learner x_lives x_batch x_table x_req x_resp s0 c0 s1 c1 s2 c2 s3 c3 s4 c4 s5 c5 s6 c6) : List Value).length by kernel_rfl)
 unfold msgV msgC
 dsimp only
 go_enter Tryz.func13, Tryz.ntmps13
 obtain ⟨w1, hw1, CA, B1⟩ := oneBox (w := w) (.int .i64 x_kind :: .int .i64 x_frm :: .int .i64 x_to :: xt x_part x_ep x_off x_high x_life x_pep x_chain x_learner x_lives x_batch x_table x_req x_resp s0 c0 s1 c1 s2 c2 s3 c3 s4 c4 s5 c5 s6 c6) 36
 have HW1 := hq' hw1
 clear hw1
 go_upto_region 1 with (fail)
 first | rw [HW1.out] | skip
 clear HW1
 have M1 := hq' (HM.out.kept B1.out)
 have BW : Hid (∀ W, Below w1.heap.size w1 W → Below w.heap.size w W) := fun W h => bt B1.out h
 generalize w.heap.size = pa at CA ⊢
 clear HM
 go_cut [51] (fun t51 wz => t51 = .bool true ∧ Below w1.heap.size w1 wz)
 case first =>
  have m0 := fun x : AnyOf (gC w1 x_ep x_life x_off x_high 3) => gC.cell CA.out x (k := 0) rfl
  have m1 := fun x : AnyOf (gC w1 x_ep x_life x_off x_high 3) => gC.cell CA.out x (k := 1) rfl
  have m2 := fun x : AnyOf (gC w1 x_ep x_life x_off x_high 3) => gC.cell CA.out x (k := 2) rfl
  have m3 := fun x : AnyOf (gC w1 x_ep x_life x_off x_high 3) => gC.cell CA.out x (k := 3) rfl
  have m4 := fun x : AnyOf (gC w1 x_ep x_life x_off x_high 3) => gC.cell CA.out x (k := 4) rfl
  have m5 := fun x : AnyOf (gC w1 x_ep x_life x_off x_high 3) => gC.cell CA.out x (k := 5) rfl
  have m6 := fun x : AnyOf (gC w1 x_ep x_life x_off x_high 3) => gC.cell CA.out x (k := 6) rfl
  have m7 := fun x : AnyOf (gC w1 x_ep x_life x_off x_high 3) => gC.cell CA.out x (k := 7) rfl
  have hC0 : (gC w1 x_ep x_life x_off x_high 3) (Array.replicate 47 false) w1.drew := ⟨(Below.refl _ _).drew, fun _ => rfl, fun h => (by simp at h), fun h => (by simp at h), by simp⟩
  have hne : Nonempty (AnyOf (gC w1 x_ep x_life x_off x_high 3)) := ⟨⟨_, Array.replicate 47 false, hC0⟩⟩
  go_wp2
  refine wp_region_ranks (gC w1 x_ep x_life x_off x_high 3) _ (by kernel_rfl) (by kernel_rfl) rfl hC0 ?_
  refine rQuiet_head 2 (by decide) (by kernel_rfl) (fun i L W h1 h2 hc => hc.set (by omega) (by omega) (by omega) (by omega) (by omega)) ?_
  simp only [tk', t0', dk', d0']
  repeat (go_big_quiet_step (fail))
  refine wpQuiet_nil ?_
  refine rQuiet_call (f := 31) (args := #[.int .i64 x_kind, .int .i64 1, .int .i64 9]) (.bool true) rfl (fun w => by go_simp) (fun L w hD hi hc => (wwithin_any x_kind 1 9 w).mono fun e w' ⟨he, hw⟩ => ⟨by rw [he, G1.out], by rw [hw]; exact hc.set (by omega) (by omega) (by omega) (by omega) (by omega)⟩) ?_
  simp only [Act.put, ta', sz', ss']
  refine rQuiet_head 4 (by decide) (by kernel_rfl) (fun i L W h1 h2 hc => hc.set (by omega) (by omega) (by omega) (by omega) (by omega)) ?_
  simp only [tk', t0', dk', d0']
  repeat (go_big_quiet_step (fail))
  refine wpQuiet_nil ?_
  refine rQuiet_call (f := 32) (args := #[.int .i64 x_frm]) (.bool true) rfl (fun w => by go_simp) (fun L w hD hi hc => (isUnit_any x_frm w).mono fun e w' ⟨he, hw⟩ => ⟨by rw [he, G2.out], by rw [hw]; exact hc.set (by omega) (by omega) (by omega) (by omega) (by omega)⟩) ?_
  simp only [Act.put, ta', sz', ss']
  refine rQuiet_head 5 (by decide) (by kernel_rfl) (fun i L W h1 h2 hc => hc.set (by omega) (by omega) (by omega) (by omega) (by omega)) ?_
  simp only [tk', t0', dk', d0']
  repeat (go_big_quiet_step (fail))
  refine wpQuiet_nil ?_
  refine rQuiet_call (f := 32) (args := #[.int .i64 x_to]) (.bool true) rfl (fun w => by go_simp) (fun L w hD hi hc => (isUnit_any x_to w).mono fun e w' ⟨he, hw⟩ => ⟨by rw [he, G3.out], by rw [hw]; exact hc.set (by omega) (by omega) (by omega) (by omega) (by omega)⟩) ?_
  simp only [Act.put, ta', sz', ss']
  refine rQuiet_head 5 (by decide) (by kernel_rfl) (fun i L W h1 h2 hc => hc.set (by omega) (by omega) (by omega) (by omega) (by omega)) ?_
  simp only [tk', t0', dk', d0']
  repeat (go_big_quiet_step (fail))
  refine wpQuiet_nil ?_
  refine rQuiet_call (f := 31) (args := #[.int .i64 x_part, .int .i64 0, .int .i64 3]) (.bool true) rfl (fun w => by go_simp) (fun L w hD hi hc => (wwithin_any x_part 0 3 w).mono fun e w' ⟨he, hw⟩ => ⟨by rw [he, G4.out], by rw [hw]; exact hc.set (by omega) (by omega) (by omega) (by omega) (by omega)⟩) ?_
  simp only [Act.put, ta', sz', ss']
  refine rQuiet_head 7 (by decide) (by kernel_rfl) (fun i L W h1 h2 hc => hc.set (by omega) (by omega) (by omega) (by omega) (by omega)) ?_
  simp only [tk', t0', dk', d0']
  repeat (go_big_quiet_step (fail))
  refine wpQuiet_nil ?_
  refine rQuiet_value (.slice (some ⟨w1.heap.size, 0, none⟩) 2 2) (fun W => W.alloc (.cells #[.int .i64 x_ep, .int .i64 x_life] 3)) rfl (fun L w hD hi hc => ?_) ?_
  ·have h27 := ready_not hi
   have h28 : L.getD 28 false = false := no_of (fun h => hD.wait (j := 28) (i := 27) (by kernel_rfl) h) h27
   have h36 : L.getD 36 false = false := no_of (fun h => hD.wait (j := 29) (i := 28) (by kernel_rfl) (hD.wait (j := 30) (i := 29) (by kernel_rfl) (hD.wait (j := 31) (i := 30) (by kernel_rfl) (hD.wait (j := 36) (i := 31) (by kernel_rfl) h)))) h28
   have h37 : L.getD 37 false = false := no_of (fun h => hD.wait (j := 37) (i := 36) (by kernel_rfl) h) h36
   have h43 : L.getD 43 false = false := no_of (fun h => hD.wait (j := 38) (i := 37) (by kernel_rfl) (hD.wait (j := 39) (i := 38) (by kernel_rfl) (hD.wait (j := 40) (i := 39) (by kernel_rfl) (hD.wait (j := 43) (i := 40) (by kernel_rfl) h)))) h37
   have hs := hc.s h43
   rw [gcnt, h27, h28, h36, h37] at hs
   have hs : w.heap.size = w1.heap.size := by simpa using hs
   refine ⟨by rw [← hs]; go_simp, ?_⟩
   exact hc.build1 hs h28 h36 h37
  simp only [Act.put, ta', sz', ss']
  refine rQuiet_call (f := 33) (args := #[.int .i64 0, .int .i64 1073741824, .slice (some ⟨w1.heap.size, 0, none⟩) 2 2]) (.bool true) rfl (fun w => by go_simp) (fun L w hD hi hc => ?_) ?_
  ·have h28 := ready_not hi
   have h27 := ready_wait hi (i := 27) (by kernel_rfl)
   have h36 : L.getD 36 false = false := no_of (fun h => hD.wait (j := 29) (i := 28) (by kernel_rfl) (hD.wait (j := 30) (i := 29) (by kernel_rfl) (hD.wait (j := 31) (i := 30) (by kernel_rfl) (hD.wait (j := 36) (i := 31) (by kernel_rfl) h)))) h28
   have h37 : L.getD 37 false = false := no_of (fun h => hD.wait (j := 37) (i := 36) (by kernel_rfl) h) h36
   have h43 : L.getD 43 false = false := no_of (fun h => hD.wait (j := 38) (i := 37) (by kernel_rfl) (hD.wait (j := 39) (i := 38) (by kernel_rfl) (hD.wait (j := 40) (i := 39) (by kernel_rfl) (hD.wait (j := 43) (i := 40) (by kernel_rfl) h)))) h37
   exact (are_sz [x_ep, x_life] (by simp [maxLen]) _ 0 1073741824 w (ints2_cl (hc.c1 h27))).mono fun e w' ⟨he, hb, hz⟩ => ⟨by rw [he, G5.out], hc.are1 hb hz h27 h28 h36 h37 h43⟩
  simp only [Act.put, ta', sz', ss']
  refine rQuiet_head 7 (by decide) (by kernel_rfl) (fun i L W h1 h2 hc => hc.set (by omega) (by omega) (by omega) (by omega) (by omega)) ?_
  simp only [tk', t0', dk', d0']
  repeat (go_big_quiet_step (fail))
  refine wpQuiet_nil ?_
  refine rQuiet_value (.slice (some ⟨w1.heap.size + 3, 0, none⟩) 2 2) (fun W => W.alloc (.cells #[.int .i64 x_off, .int .i64 x_high] 3)) rfl (fun L w hD hi hc => ?_) ?_
  ·have h36 := ready_not hi
   have h28 : L.getD 28 false = true := hD.wait (j := 29) (i := 28) (by kernel_rfl) (hD.wait (j := 30) (i := 29) (by kernel_rfl) (hD.wait (j := 31) (i := 30) (by kernel_rfl) (ready_wait hi (i := 31) (by kernel_rfl))))
   have h27 : L.getD 27 false = true := hD.wait (j := 28) (i := 27) (by kernel_rfl) h28
   have h37 : L.getD 37 false = false := no_of (fun h => hD.wait (j := 37) (i := 36) (by kernel_rfl) h) h36
   have h43 : L.getD 43 false = false := no_of (fun h => hD.wait (j := 38) (i := 37) (by kernel_rfl) (hD.wait (j := 39) (i := 38) (by kernel_rfl) (hD.wait (j := 40) (i := 39) (by kernel_rfl) (hD.wait (j := 43) (i := 40) (by kernel_rfl) h)))) h37
   have hs := hc.s h43
   rw [gcnt, h27, h28, h36, h37] at hs
   have hs : w.heap.size = w1.heap.size + 3 := by simpa using hs
   refine ⟨by rw [← hs]; go_simp, ?_⟩
   exact hc.build2 hs h27 h28 h37
  simp only [Act.put, ta', sz', ss']
  refine rQuiet_call (f := 33) (args := #[.int .i64 (-1), .int .i64 1099511627776, .slice (some ⟨w1.heap.size + 3, 0, none⟩) 2 2]) (.bool true) rfl (fun w => by go_simp) (fun L w hD hi hc => ?_) ?_
  ·have h37 := ready_not hi
   have h36 := ready_wait hi (i := 36) (by kernel_rfl)
   have h28 : L.getD 28 false = true := hD.wait (j := 29) (i := 28) (by kernel_rfl) (hD.wait (j := 30) (i := 29) (by kernel_rfl) (hD.wait (j := 31) (i := 30) (by kernel_rfl) (hD.wait (j := 36) (i := 31) (by kernel_rfl) h36)))
   have h27 : L.getD 27 false = true := hD.wait (j := 28) (i := 27) (by kernel_rfl) h28
   have h43 : L.getD 43 false = false := no_of (fun h => hD.wait (j := 38) (i := 37) (by kernel_rfl) (hD.wait (j := 39) (i := 38) (by kernel_rfl) (hD.wait (j := 40) (i := 39) (by kernel_rfl) (hD.wait (j := 43) (i := 40) (by kernel_rfl) h)))) h37
   exact (are_sz [x_off, x_high] (by simp [maxLen]) _ (-1) 1099511627776 w (ints2_cl (hc.c2 h36))).mono fun e w' ⟨he, hb, hz⟩ => ⟨by rw [he, G6.out], hc.are2 hb hz h27 h28 h36 h37 h43⟩
  simp only [Act.put, ta', sz', ss']
  refine rQuiet_head 3 (by decide) (by kernel_rfl) (fun i L W h1 h2 hc => hc.set (by omega) (by omega) (by omega) (by omega) (by omega)) ?_
  simp only [tk', t0', dk', d0']
  repeat (go_big_quiet_step (fail))
  refine wpQuiet_nil ?_
  refine rQuiet_value (.agg (.int .i64 x_kind :: .int .i64 x_frm :: .int .i64 x_to :: xt x_part x_ep x_off x_high x_life x_pep x_chain x_learner x_lives x_batch x_table x_req x_resp s0 c0 s1 c1 s2 c2 s3 c3 s4 c4 s5 c5 s6 c6).toArray) (fun W => W) rfl (fun L w hD hi hc => ⟨?_, hc.set (by omega) (by omega) (by omega) (by omega) (by omega)⟩) ?_
  ·have hl := run_loadAt_mid (P := Tryz.prog) w pa 0 36 (.int .i64 x_kind :: .int .i64 x_frm :: .int .i64 x_to :: xt x_part x_ep x_off x_high x_life x_pep x_chain x_learner x_lives x_batch x_table x_req x_resp s0 c0 s1 c1 s2 c2 s3 c3 s4 c4 s5 c5 s6 c6) _ (Cl.below CA.out hc.b).range Tryz.underlying36 rfl HI38.out
   exact exec_load rfl rfl hl
  simp only [Act.put, ta', sz', ss']
  refine rQuiet_value (.agg (.int .i64 x_kind :: .int .i64 x_frm :: .int .i64 x_to :: xt x_part x_ep x_off x_high x_life x_pep x_chain x_learner x_lives x_batch x_table x_req x_resp s0 c0 s1 c1 s2 c2 s3 c3 s4 c4 s5 c5 s6 c6).toArray) (fun W => W) rfl (fun L w hD hi hc => ⟨?_, hc.set (by omega) (by omega) (by omega) (by omega) (by omega)⟩) ?_
  ·have hl := run_loadAt_mid (P := Tryz.prog) w pa 0 36 (.int .i64 x_kind :: .int .i64 x_frm :: .int .i64 x_to :: xt x_part x_ep x_off x_high x_life x_pep x_chain x_learner x_lives x_batch x_table x_req x_resp s0 c0 s1 c1 s2 c2 s3 c3 s4 c4 s5 c5 s6 c6) _ (Cl.below CA.out hc.b).range Tryz.underlying36 rfl HI38.out
   exact exec_load rfl rfl hl
  simp only [Act.put, ta', sz', ss']
  refine rQuiet_call (f := 34) (args := #[.agg (.int .i64 x_kind :: .int .i64 x_frm :: .int .i64 x_to :: xt x_part x_ep x_off x_high x_life x_pep x_chain x_learner x_lives x_batch x_table x_req x_resp s0 c0 s1 c1 s2 c2 s3 c3 s4 c4 s5 c5 s6 c6).toArray]) (msgV (Wi.only ⟨x_kind, x_frm, x_to, x_part, x_ep, x_off, x_high, x_life, x_pep, x_chain, x_learner, x_lives, x_batch, x_table, x_req, x_resp⟩) (onlyV ⟨x_kind, x_frm, x_to, x_part, x_ep, x_off, x_high, x_life, x_pep, x_chain, x_learner, x_lives, x_batch, x_table, x_req, x_resp⟩ ⟨.slice s0 x_chain.length c0, .slice s1 x_lives.length c1, .slice s2 x_batch.recs.length c2, .slice s3 x_table.length c3, .slice s4 x_req.recs.length c4, .slice s5 x_resp.parts.length c5, .slice s6 x_resp.recs.length c6⟩)) rfl (fun w => by go_simp) (fun L w hD hi hc => ?_) ?_
  ·exact (only_any ⟨x_kind, x_frm, x_to, x_part, x_ep, x_off, x_high, x_life, x_pep, x_chain, x_learner, x_lives, x_batch, x_table, x_req, x_resp⟩ ⟨.slice s0 x_chain.length c0, .slice s1 x_lives.length c1, .slice s2 x_batch.recs.length c2, .slice s3 x_table.length c3, .slice s4 x_req.recs.length c4, .slice s5 x_resp.parts.length c5, .slice s6 x_resp.recs.length c6⟩ w (M1.out.kept hc.b) HK.out).mono fun e w' ⟨he, hb⟩ => ⟨he, hc.only hb⟩
  simp only [Act.put, ta', sz', ss']
  refine rQuiet_call (f := 15) (args := #[.agg (.int .i64 x_kind :: .int .i64 x_frm :: .int .i64 x_to :: xt x_part x_ep x_off x_high x_life x_pep x_chain x_learner x_lives x_batch x_table x_req x_resp s0 c0 s1 c1 s2 c2 s3 c3 s4 c4 s5 c5 s6 c6).toArray, msgV (Wi.only ⟨x_kind, x_frm, x_to, x_part, x_ep, x_off, x_high, x_life, x_pep, x_chain, x_learner, x_lives, x_batch, x_table, x_req, x_resp⟩) (onlyV ⟨x_kind, x_frm, x_to, x_part, x_ep, x_off, x_high, x_life, x_pep, x_chain, x_learner, x_lives, x_batch, x_table, x_req, x_resp⟩ ⟨.slice s0 x_chain.length c0, .slice s1 x_lives.length c1, .slice s2 x_batch.recs.length c2, .slice s3 x_table.length c3, .slice s4 x_req.recs.length c4, .slice s5 x_resp.parts.length c5, .slice s6 x_resp.recs.length c6⟩)]) (.bool false) rfl (fun w => by go_simp) (fun L w hD hi hc => ?_) ?_
  ·have h43 := ready_wait hi (i := 43) (by kernel_rfl)
   exact (wsame_any ⟨x_kind, x_frm, x_to, x_part, x_ep, x_off, x_high, x_life, x_pep, x_chain, x_learner, x_lives, x_batch, x_table, x_req, x_resp⟩ (Wi.only ⟨x_kind, x_frm, x_to, x_part, x_ep, x_off, x_high, x_life, x_pep, x_chain, x_learner, x_lives, x_batch, x_table, x_req, x_resp⟩) ⟨.slice s0 x_chain.length c0, .slice s1 x_lives.length c1, .slice s2 x_batch.recs.length c2, .slice s3 x_table.length c3, .slice s4 x_req.recs.length c4, .slice s5 x_resp.parts.length c5, .slice s6 x_resp.recs.length c6⟩ (onlyV ⟨x_kind, x_frm, x_to, x_part, x_ep, x_off, x_high, x_life, x_pep, x_chain, x_learner, x_lives, x_batch, x_table, x_req, x_resp⟩ ⟨.slice s0 x_chain.length c0, .slice s1 x_lives.length c1, .slice s2 x_batch.recs.length c2, .slice s3 x_table.length c3, .slice s4 x_req.recs.length c4, .slice s5 x_resp.parts.length c5, .slice s6 x_resp.recs.length c6⟩) w (M1.out.kept hc.b) (M1.out.kept hc.b).only HO.out HO.out.only).mono fun e w' ⟨he, hb⟩ => ⟨by rw [he, G7.out], hc.late hb h43 (by omega) (by omega) (by omega)⟩
  simp only [Act.put, ta', sz', ss']
  refine rQuiet_head 2 (by decide) (by kernel_rfl) (fun i L W h1 h2 hc => hc.set (by omega) (by omega) (by omega) (by omega) (by omega)) ?_
  simp only [tk', t0', dk', d0']
  repeat (go_big_quiet_step (fail))
  refine wpQuiet_nil ?_
  intro w9 hw9
  have T4 := hq' hw9.b
  go_wp2
  go_meet
  case rel => exact ⟨rfl, T4.out⟩
 case rest =>
  obtain ⟨rfl, hwz⟩ := hcut
  have BZ := hq' (BW.out _ hwz)
  clear hwz CA
  go_wp2
  go_ret
  exact ⟨rfl, BZ.out⟩
open Go.RowKit
theorem good_none (cs : List Value) (x : Int) (hx : cs[0]? = some (.int .i64 x)) (hk : Wi.inB x 1 9 = false) (w : World) :
  Calls Tryz.prog 13 #[.agg cs.toArray] w fun e w' => e = .returned (.bool false) ∧ Below w.heap.size w w' := by
 have HK := hq' hk
 have HX := hq' hx
 clear hk hx
 go_enter Tryz.func13, Tryz.ntmps13
 obtain ⟨w1, hw1, CA, B1⟩ := oneBox (w := w) cs 36
 have HW1 := hq' hw1
 clear hw1
 go_upto_region 1 with (fail)
 first | rw [HW1.out] | skip
 clear HW1
 generalize w.heap.size = pa at CA ⊢
 go_cut [51] (fun t51 wz => t51 = .bool true ∧ wz = w1.drew)
 case first =>
  have m0 : ∀ y : AnyOf (fun (L : Array Bool) (W : World) => W = w1.drew), y.1.cell? ⟨pa, 0, none⟩ = some (.int .i64 x) := fun y => by
   obtain ⟨L, hL⟩ := y.2
   rw [show y.1 = w1.drew from hL]
   exact (CA.out.cell 0).trans HX.out
  have hne : Nonempty (AnyOf (fun (L : Array Bool) (W : World) => W = w1.drew)) := ⟨⟨_, Array.replicate 47 false, rfl⟩⟩
  go_wp2
  refine wp_region_ranks (fun (L : Array Bool) (W : World) => W = w1.drew) _ (by kernel_rfl) (by kernel_rfl) rfl rfl ?_
  refine rQuiet_head 2 (by decide) (by kernel_rfl) (fun i L W h1 h2 hc => hc) ?_
  simp only [tk', t0', dk', d0']
  repeat (go_big_quiet_step (fail))
  refine wpQuiet_nil ?_
  refine rQuiet_call (f := 31) (args := #[.int .i64 x, .int .i64 1, .int .i64 9]) (.bool false) rfl (fun w => by go_simp) (fun L w hD hi hc => (wwithin_any x 1 9 w).mono fun e w' ⟨he, hw⟩ => ⟨by rw [he, HK.out], by rw [hw]; exact hc⟩) ?_
  simp only [Act.put, ta', sz', ss']
  refine rQuiet_head 4 (by decide) (by kernel_rfl) (fun i L W h1 h2 hc => hc) ?_
  simp only [tk', t0', dk', d0']
  repeat (go_big_quiet_step (fail))
  refine wpQuiet_nil ?_
  refine rQuiet_none (by go_simp) (fun L w hD hi hc => hc) ?_
  simp only [Act.put, ta', sz', ss']
  refine rQuiet_head 5 (by decide) (by kernel_rfl) (fun i L W h1 h2 hc => hc) ?_
  simp only [tk', t0', dk', d0']
  repeat (go_big_quiet_step (fail))
  refine wpQuiet_nil ?_
  refine rQuiet_none (by go_simp) (fun L w hD hi hc => hc) ?_
  simp only [Act.put, ta', sz', ss']
  refine rQuiet_head 5 (by decide) (by kernel_rfl) (fun i L W h1 h2 hc => hc) ?_
  simp only [tk', t0', dk', d0']
  repeat (go_big_quiet_step (fail))
  refine wpQuiet_nil ?_
  refine rQuiet_none (by go_simp) (fun L w hD hi hc => hc) ?_
  simp only [Act.put, ta', sz', ss']
  refine rQuiet_head 7 (by decide) (by kernel_rfl) (fun i L W h1 h2 hc => hc) ?_
  simp only [tk', t0', dk', d0']
  repeat (go_big_quiet_step (fail))
  refine wpQuiet_nil ?_
  refine rQuiet_none (by go_simp) (fun L w hD hi hc => hc) ?_
  simp only [Act.put, ta', sz', ss']
  refine rQuiet_none (by go_simp) (fun L w hD hi hc => hc) ?_
  simp only [Act.put, ta', sz', ss']
  refine rQuiet_head 7 (by decide) (by kernel_rfl) (fun i L W h1 h2 hc => hc) ?_
  simp only [tk', t0', dk', d0']
  repeat (go_big_quiet_step (fail))
  refine wpQuiet_nil ?_
  refine rQuiet_none (by go_simp) (fun L w hD hi hc => hc) ?_
  simp only [Act.put, ta', sz', ss']
  refine rQuiet_none (by go_simp) (fun L w hD hi hc => hc) ?_
  simp only [Act.put, ta', sz', ss']
  refine rQuiet_head 3 (by decide) (by kernel_rfl) (fun i L W h1 h2 hc => hc) ?_
  simp only [tk', t0', dk', d0']
  repeat (go_big_quiet_step (fail))
  refine wpQuiet_nil ?_
  refine rQuiet_none (by go_simp) (fun L w hD hi hc => hc) ?_
  simp only [Act.put, ta', sz', ss']
  refine rQuiet_none (by go_simp) (fun L w hD hi hc => hc) ?_
  simp only [Act.put, ta', sz', ss']
  refine rQuiet_none (by go_simp) (fun L w hD hi hc => hc) ?_
  simp only [Act.put, ta', sz', ss']
  refine rQuiet_none (by go_simp) (fun L w hD hi hc => hc) ?_
  simp only [Act.put, ta', sz', ss']
  refine rQuiet_head 2 (by decide) (by kernel_rfl) (fun i L W h1 h2 hc => hc) ?_
  simp only [tk', t0', dk', d0']
  repeat (go_big_quiet_step (fail))
  refine wpQuiet_nil ?_
  intro w9 hw9
  have T4 := hq' hw9
  go_wp2
  go_meet
  case rel => exact ⟨rfl, T4.out⟩
 case rest =>
  obtain ⟨rfl, hwz⟩ := hcut
  have BZ : Hid (Below w.heap.size w wc) := by rw [hwz]; exact B1.out.drew
  clear hwz CA
  go_wp2
  go_ret
  exact ⟨rfl, BZ.out⟩
theorem encode_no (cs : List Value) (hlen : cs.length = 38) (w : World) (hg : ∀ W, Below w.heap.size w W → Calls Tryz.prog 13 #[.agg cs.toArray] W fun e w' => e = .returned (.bool false) ∧ Below W.heap.size W w') :
  Calls Tryz.prog 11 #[.agg cs.toArray] w fun e w' => e = .returned (.tuple #[.string ⟨#[]⟩, .int .i64 1]) ∧ Below w.heap.size w w' := by
 have HG := hq' hg
 have HIL : Hid ((Tryz.prog.info? 36).map (·.size) = some cs.length) := by rw [Hid, hlen]; kernel_rfl
 clear hg hlen
 go_enter Tryz.func11, Tryz.ntmps11
 obtain ⟨w1, hw1, CA, B1⟩ := oneBox (w := w) cs 36
 have HW1 := hq' hw1
 clear hw1
 go_upto_region 1 with (fail)
 first | rw [HW1.out] | skip
 clear HW1
 have R1 := hq' CA.out.range
 have HG1 := hq' (HG.out _ B1.out)
 obtain ⟨pa, hpa⟩ : ∃ pa, pa = w.heap.size := ⟨_, rfl⟩
 rw [← hpa] at R1
 first | rw [← hpa] | skip
 have HPA := hq' hpa
 clear hpa CA
 go_wp2_with (refine wpList_load_mid (by rfl) _ _ (by rfl) pa 0 (by rfl) cs _ R1.out Tryz.underlying36 (by rfl) HIL.out ?_)
 refine HG1.out.mono ?_
 rintro e w2 ⟨rfl, hb2⟩
 have B2 := hq' (bt B1.out hb2)
 clear hb2
 go_wp2
 go_ret2
 exact ⟨rfl, B2.out⟩
open Go.RowKit
theorem wgood_any (m : Wi.Msg) (v : MsgV) (w : World) (h : MsgAt w m v) (ok : MsgOk m) (hcap : CapOk v.arecs) (hw : Lw w) :
  Calls Tryz.prog 13 #[msgV m v] w fun e w' => e = .returned (.bool (Wi.good m)) ∧ Below w.heap.size w w' := by
 cases h1 : Wi.inB m.kind 1 9
 ·rw [show Wi.good m = false by simp [Wi.good, Wi.first, h1]]; exact good_none (msgC m v) m.kind rfl h1 w
 cases h2 : Wi.unitB m.frm
 ·rw [show Wi.good m = false by simp [Wi.good, Wi.first, h2]]; exact good_f2 m v w h ok h1 h2
 cases h3 : Wi.unitB m.«to»
 ·rw [show Wi.good m = false by simp [Wi.good, Wi.first, h3]]; exact good_f3 m v w h ok h1 h2 h3
 cases h4 : Wi.inB m.part 0 3
 ·rw [show Wi.good m = false by simp [Wi.good, Wi.first, h4]]; exact good_f4 m v w h ok h1 h2 h3 h4
 cases h5 : Wi.areB 0 1073741824 [m.ep, m.life]
 ·rw [show Wi.good m = false by simp [Wi.good, Wi.first, h5]]; exact good_f5 m v w h ok h1 h2 h3 h4 h5
 cases h6 : Wi.areB (-1) 1099511627776 [m.off, m.high]
 ·rw [show Wi.good m = false by simp [Wi.good, Wi.first, h6]]; exact good_f6 m v w h ok h1 h2 h3 h4 h5 h6
 cases h7 : Wi.same m (Wi.only m)
 ·rw [show Wi.good m = false by simp [Wi.good, Wi.first, h7]]; exact good_f7 m v w h ok h1 h2 h3 h4 h5 h6 h7
 rw [show Wi.good m = Wi.lastB m by simp [Wi.good, Wi.first, h1, h2, h3, h4, h5, h6, h7]]
 exact good_true m v w h ok hcap hw h1 h2 h3 h4 h5 h6 h7
end Go.Proofs.YtjfpbeccpcbpcaaGreatDoor
/-
 The check of a text (CRC-32, bit by bit), in plain Lean: no program in sight.
 Conditions: none. What is used above: linearity, injectivity, four bytes at once.
-/
namespace Go.Proofs.YtjfpbeccpcbpcaaGreatDoor.Crc
def poly : BitVec 32 := 0xedb88320#32
def stp (r : BitVec 32) : BitVec 32 := (r >>> 1) ^^^ (if r.getLsbD 0 then poly else 0#32)
def stps : Nat → BitVec 32 → BitVec 32
 | 0, r => r
 | k + 1, r => stp (stps k r)
def z (b : UInt8) : BitVec 32 := b.toBitVec.setWidth 32
def upd (r : BitVec 32) (b : UInt8) : BitVec 32 := stps 8 (r ^^^ z b)
def fold (r : BitVec 32) (l : List UInt8) : BitVec 32 := l.foldl upd r
def ones : BitVec 32 := 0xffffffff#32
def sum (l : List UInt8) : BitVec 32 := fold ones l ^^^ ones
def four (n : BitVec 32) : List UInt8 := [⟨n.setWidth 8⟩, ⟨(n >>> 8).setWidth 8⟩, ⟨(n >>> 16).setWidth 8⟩, ⟨(n >>> 24).setWidth 8⟩]
def num (l : List UInt8) : BitVec 32 := z (l.getD 0 0) ^^^ z (l.getD 1 0) <<< 8 ^^^ z (l.getD 2 0) <<< 16 ^^^ z (l.getD 3 0) <<< 24
theorem z_high (b : UInt8) (i : Nat) (h : 8 ≤ i) : (z b).getLsbD i = false := by
 unfold z
 rw [BitVec.getLsbD_setWidth]
 simp
 intro _
 exact BitVec.getLsbD_of_ge _ _ h
theorem fold_append (r : BitVec 32) (a b : List UInt8) : fold r (a ++ b) = fold (fold r a) b := List.foldl_append ..
theorem num_getLsbD (a b c d : UInt8) (i : Nat) : (num [a, b, c, d]).getLsbD i =
  (if i < 8 then a.toBitVec.getLsbD i else if i < 16 then b.toBitVec.getLsbD (i - 8) else if i < 24 then c.toBitVec.getLsbD (i - 16) else if i < 32 then d.toBitVec.getLsbD (i - 24) else false) := by
 have hz : ∀ (x : UInt8) (j : Nat), (z x).getLsbD j = (decide (j < 8) && x.toBitVec.getLsbD j) := by
  intro x j
  by_cases h : j < 8
  ·unfold z; rw [BitVec.getLsbD_setWidth]; simp [h]; omega
  ·simp [h, z_high x j (by omega)]
 simp only [num, List.getD_cons_zero, List.getD_cons_succ, BitVec.getLsbD_xor, BitVec.getLsbD_shiftLeft, hz]
 by_cases h1 : i < 8
 ·simp [h1, show i < 16 by omega, show i < 24 by omega]
 ·by_cases h2 : i < 16
  ·simp [h1, h2, show i < 24 by omega, show i < 32 by omega, show i - 8 < 8 by omega]
  ·by_cases h3 : i < 24
   ·simp [h1, h2, h3, show i < 32 by omega, show i - 16 < 8 by omega, show ¬ i - 8 < 8 by omega]
   ·by_cases h4 : i < 32
    ·simp [h1, h2, h3, h4, show i - 24 < 8 by omega, show ¬ i - 8 < 8 by omega, show ¬ i - 16 < 8 by omega]
    ·simp [h1, h2, h3, h4]
theorem four_length (n : BitVec 32) : (four n).length = 4 := rfl
end Go.Proofs.YtjfpbeccpcbpcaaGreatDoor.Crc
namespace Go.Proofs.YtjfpbeccpcbpcaaGreatDoor
open Go.RowKit Crc
theorem bits_xor_bv (a b : BitVec 32) : bits .xor .u32 (a.toNat : Int) (b.toNat : Int) = ((a ^^^ b).toNat : Int) := by
 rw [u32_xor_nat _ _ a.isLt b.isLt, BitVec.toNat_xor]
theorem z_toNat (b : UInt8) : (z b).toNat = b.toNat := by
 unfold z
 rw [BitVec.toNat_setWidth]
 have := b.toNat_lt
 show b.toNat % 2 ^ 32 = b.toNat
 omega
theorem half_bv (r : BitVec 32) : ((r.toNat : Int) / (2 : Int)) = ((r >>> 1).toNat : Int) := by
 rw [BitVec.toNat_ushiftRight, Nat.shiftRight_eq_div_pow]; omega
theorem low_bv (r : BitVec 32) : r.getLsbD 0 = decide (r.toNat % 2 = 1) := by
 simp [BitVec.getLsbD, Nat.testBit_zero]
theorem step_num (r : BitVec 32) :
  bits .xor .u32 ((r.toNat : Int) / 2) (bits .and .u32 3988292384 (-bits .and .u32 (r.toNat : Int) 1 % 4294967296)) = ((stp r).toNat : Int) := by
 have h1 : bits .and .u32 (r.toNat : Int) 1 = ((r.toNat % 2 : Nat) : Int) := by
  have := u32_and_nat r.toNat 1 r.isLt (by omega)
  rw [nat_mask1] at this
  exact this
 have hx := low_bv r
 rw [h1, half_bv]
 unfold stp
 rw [hx]
 by_cases h : r.toNat % 2 = 1
 ·have e1 : (-((r.toNat % 2 : Nat) : Int)) % 4294967296 = 4294967295 := by rw [h]; rfl
  have e2 : bits .and .u32 3988292384 4294967295 = ((poly).toNat : Int) := by decide +kernel
  rw [e1, e2, bits_xor_bv]
  simp [h]
 ·have h0 : r.toNat % 2 = 0 := by omega
  have e1 : (-((r.toNat % 2 : Nat) : Int)) % 4294967296 = 0 := by rw [h0]; rfl
  have e2 : bits .and .u32 3988292384 0 = ((0#32).toNat : Int) := by decide +kernel
  rw [e1, e2, bits_xor_bv]
  simp [h]
theorem enter_num (r : BitVec 32) (b : UInt8) : bits .xor .u32 (r.toNat : Int) ((b.toNat : Int) % 4294967296) = ((r ^^^ z b).toNat : Int) := by
 have e : ((b.toNat : Int) % 4294967296) = ((z b).toNat : Int) := by rw [z_toNat]; have := b.toNat_lt; omega
 rw [e, bits_xor_bv]
theorem not_num (r : BitVec 32) : bits .xor .u32 IntKind.u32.max (r.toNat : Int) = ((r ^^^ ones).toNat : Int) := by
 have e : IntKind.u32.max = ((ones).toNat : Int) := by decide +kernel
 rw [e, bits_xor_bv, BitVec.xor_comm]
theorem not_num' (r : BitVec 32) : bits .xor .u32 (r.toNat : Int) 4294967295 = ((r ^^^ ones).toNat : Int) := by
 have e : (4294967295 : Int) = ((ones).toNat : Int) := by decide +kernel
 rw [e, bits_xor_bv]
theorem num_toNat (a b c d : UInt8) : (num [a, b, c, d]).toNat = a.toNat + b.toNat * 256 + c.toNat * 65536 + d.toNat * 16777216 := by
 have ha := a.toNat_lt; have hb := b.toNat_lt; have hc := c.toNat_lt; have hd := d.toNat_lt
 have e : a.toNat + b.toNat * 256 + c.toNat * 65536 + d.toNat * 16777216 = 2 ^ 8 * (2 ^ 8 * (2 ^ 8 * d.toNat + c.toNat) + b.toNat) + a.toNat := by omega
 rw [e]
 apply Nat.eq_of_testBit_eq
 intro i
 have h := num_getLsbD a b c d i
 rw [BitVec.getLsbD] at h
 rw [h, Nat.testBit_two_pow_mul_add _ ha, Nat.testBit_two_pow_mul_add _ hb, Nat.testBit_two_pow_mul_add _ hc]
 have g : ∀ (x : UInt8) (j : Nat), x.toBitVec.getLsbD j = x.toNat.testBit j := fun _ _ => rfl
 simp only [g]
 by_cases h1 : i < 8
 ·simp [h1]
 ·by_cases h2 : i < 16
  ·simp [h1, h2, show i - 8 < 8 by omega]
  ·by_cases h3 : i < 24
   ·have e3 : i - 8 - 8 = i - 16 := by omega
    have e4 : ¬ 8 ≤ i - 16 := by omega
    simp [h1, h2, h3, show ¬ i - 8 < 8 by omega, e3, e4]
   ·have e3 : i - 8 - 8 - 8 = i - 24 := by omega
    by_cases h4 : i < 32
    ·simp [h1, h2, h3, h4, show ¬ i - 8 < 8 by omega, show ¬ i - 8 - 8 < 8 by omega, e3]
    ·have : d.toNat.testBit (i - 24) = false := Nat.testBit_lt_two_pow (Nat.lt_of_lt_of_le hd (Nat.pow_le_pow_right (by omega) (show 8 ≤ i - 24 by omega)))
     simp [h1, h2, h3, h4, show ¬ i - 8 < 8 by omega, show ¬ i - 8 - 8 < 8 by omega, e3, this]
theorem or_num (a b c d : UInt8) :
  bits .or .u32 (bits .or .u32 (bits .or .u32 (bits .or .u32 0 ((a.toNat : Int) % 4294967296)) ((b.toNat : Int) % 4294967296 * 256 % 4294967296)) ((c.toNat : Int) % 4294967296 * 65536 % 4294967296)) ((d.toNat : Int) % 4294967296 * 16777216 % 4294967296) = ((num [a, b, c, d]).toNat : Int) := by
 have ha := a.toNat_lt; have hb := b.toNat_lt; have hc := c.toNat_lt; have hd := d.toNat_lt
 have e1 : ((a.toNat : Int) % 4294967296) = ((a.toNat : Nat) : Int) := by omega
 have e2 : ((b.toNat : Int) % 4294967296 * 256 % 4294967296) = ((b.toNat * 256 : Nat) : Int) := by omega
 have e3 : ((c.toNat : Int) % 4294967296 * 65536 % 4294967296) = ((c.toNat * 65536 : Nat) : Int) := by omega
 have e4 : ((d.toNat : Int) % 4294967296 * 16777216 % 4294967296) = ((d.toNat * 16777216 : Nat) : Int) := by omega
 have e0 : (0 : Int) = ((0 : Nat) : Int) := rfl
 rw [e1, e2, e3, e4, e0, u32_or_nat 0 _ (by omega) (by omega), Nat.zero_or, u32_or_nat _ _ (by omega) (by omega), Nat.or_comm a.toNat,
  nat_join 8 _ _ (by omega) (by omega), u32_or_nat _ _ (by omega) (by omega), Nat.or_comm _ (c.toNat * 65536), nat_join 16 _ _ (by omega) (by omega),
  u32_or_nat _ _ (by omega) (by omega), Nat.or_comm _ (d.toNat * 16777216), nat_join 24 _ _ (by omega) (by omega), num_toNat]
 omega
theorem byte_num (n : BitVec 32) (k : Nat) : UInt8.ofNat (((n.toNat : Int) / ((2 ^ k : Nat) : Int) % 256).toNat) = (⟨(n >>> k).setWidth 8⟩ : UInt8) := by
 apply UInt8.eq_of_toBitVec_eq
 apply BitVec.eq_of_toNat_eq
 have e : ((n.toNat : Int) / ((2 ^ k : Nat) : Int) % 256).toNat = n.toNat / 2 ^ k % 256 := by
  rw [← Int.natCast_ediv]; omega
 rw [e]
 simp [BitVec.toNat_setWidth, BitVec.toNat_ushiftRight, Nat.shiftRight_eq_div_pow]
def part (r : BitVec 32) (b : UInt8) (j : Nat) : BitVec 32 := stps j (r ^^^ z b) ^^^ (z b >>> j)
theorem part_zero (r : BitVec 32) (b : UInt8) : part r b 0 = r := by simp [part, stps, BitVec.xor_assoc]
theorem part_eight (r : BitVec 32) (b : UInt8) : part r b 8 = upd r b := by
 have : z b >>> 8 = 0#32 := by
  apply BitVec.eq_of_getLsbD_eq
  intro i hi
  rw [BitVec.getLsbD_ushiftRight, z_high b _ (by omega)]
  simp
 rw [part, this]
 simp [upd]
theorem part_succ (r : BitVec 32) (b : UInt8) (j : Nat) : part r b (j + 1) = (part r b j >>> 1) ^^^ (if (z b >>> j).getLsbD 0 = (part r b j).getLsbD 0 then 0#32 else poly) := by
 have e1 : part r b j >>> 1 = (stps j (r ^^^ z b) >>> 1) ^^^ (z b >>> (j + 1)) := by
  rw [part, BitVec.ushiftRight_xor_distrib, ← BitVec.shiftRight_add]
 have e2 : (part r b j).getLsbD 0 = ((stps j (r ^^^ z b)).getLsbD 0 ^^ (z b >>> j).getLsbD 0) := by rw [part, BitVec.getLsbD_xor]
 rw [e1, e2]
 show stp (stps j (r ^^^ z b)) ^^^ (z b >>> (j + 1)) = _
 unfold stp
 rw [BitVec.xor_assoc, BitVec.xor_assoc, BitVec.xor_comm (z b >>> (j + 1))]
 congr 2
 cases (stps j (r ^^^ z b)).getLsbD 0 <;> cases (z b >>> j).getLsbD 0 <;> rfl
theorem bit_num (b : UInt8) (j : Nat) : bits .and .u32 ((b.toNat : Int) / 2 ^ j % 4294967296) 1 = (((z b >>> j).toNat % 2 : Nat) : Int) := by
 have hb := b.toNat_lt
 have e : ((b.toNat : Int) / 2 ^ j % 4294967296) = ((b.toNat / 2 ^ j : Nat) : Int) := by
  have h2 : b.toNat / 2 ^ j ≤ b.toNat := Nat.div_le_self _ _
  have h3 : (b.toNat : Int) / 2 ^ j = ((b.toNat / 2 ^ j : Nat) : Int) := by rw [Int.natCast_ediv, Int.natCast_pow]; rfl
  rw [h3]
  generalize b.toNat / 2 ^ j = q at h2
  omega
 have h2 : b.toNat / 2 ^ j ≤ b.toNat := Nat.div_le_self _ _
 have := u32_and_nat (b.toNat / 2 ^ j) 1 (by omega) (by omega)
 rw [nat_mask1] at this
 rw [e, BitVec.toNat_ushiftRight, z_toNat, Nat.shiftRight_eq_div_pow]
 exact this
theorem low_num (r : BitVec 32) : bits .and .u32 (r.toNat : Int) 1 = ((r.toNat % 2 : Nat) : Int) := by
 have := u32_and_nat r.toNat 1 r.isLt (by omega)
 rw [nat_mask1] at this
 exact this
theorem part_yes (r : BitVec 32) (b : UInt8) (j : Nat) (h : (bits .and .u32 ((b.toNat : Int) / 2 ^ j % 4294967296) 1 != bits .and .u32 ((part r b j).toNat : Int) 1) = true) :
  bits .xor .u32 (((part r b j).toNat : Int) / 2) 3988292384 = ((part r b (j + 1)).toNat : Int) := by
 rw [bit_num, low_num] at h
 have hp : (3988292384 : Int) = ((poly).toNat : Int) := by decide +kernel
 rw [half_bv, hp, bits_xor_bv, part_succ, low_bv, low_bv]
 have h' : ¬ ((z b >>> j).toNat % 2 = (part r b j).toNat % 2) := by
  intro e; rw [e] at h; simp at h
 have h1 := Nat.mod_two_eq_zero_or_one (z b >>> j).toNat
 have h2 := Nat.mod_two_eq_zero_or_one (part r b j).toNat
 rw [if_neg]
 simp only [decide_eq_decide]
 omega
theorem part_no (r : BitVec 32) (b : UInt8) (j : Nat) (h : (bits .and .u32 ((b.toNat : Int) / 2 ^ j % 4294967296) 1 != bits .and .u32 ((part r b j).toNat : Int) 1) = false) :
  (((part r b j).toNat : Int) / 2) = ((part r b (j + 1)).toNat : Int) := by
 rw [bit_num, low_num] at h
 rw [half_bv, part_succ, low_bv, low_bv]
 have h' : (z b >>> j).toNat % 2 = (part r b j).toNat % 2 := by
  simp only [bne_eq_false_iff_eq] at h
  exact_mod_cast h
 rw [if_pos (by rw [h'])]
 simp
theorem getD_four (l : List UInt8) : num l = num [l.getD 0 0, l.getD 1 0, l.getD 2 0, l.getD 3 0] := rfl
theorem str_four (n : BitVec 32) : strOfNums [(n.toNat : Int) % 256, (n.toNat : Int) / 256 % 256, (n.toNat : Int) / 65536 % 256, (n.toNat : Int) / 16777216] = ⟨(four n).toArray⟩ := by
 have e0 := byte_num n 0
 have e1 := byte_num n 8
 have e2 := byte_num n 16
 have e3 := byte_num n 24
 have h3 : (n.toNat : Int) / 16777216 = (n.toNat : Int) / 16777216 % 256 := by have := n.isLt; omega
 rw [h3]
 unfold strOfNums four
 simp only [List.map_cons, List.map_nil]
 simp at e0
 rw [← e1, ← e2, ← e3, ← e0]
 rfl
end Go.Proofs.YtjfpbeccpcbpcaaGreatDoor
