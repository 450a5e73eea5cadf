/-
  Wga / Wga2 / Wga3 / Wga4: texts of one proof, one behind the other.
  Conditions: none of its own.
-/
import Derived.Test.YtbljbdjmgogknaaGreatDoorZap
import Derived.Test.YtbljbdjmgogknaaGreatDoorZaq
set_option linter.unusedVariables false
set_option linter.unusedSimpArgs false
set_option maxHeartbeats 12800000
set_option maxRecDepth 20000
namespace Go.Proofs.YtbljbdjmgogknaaGreatDoor
open Go.RowKit
theorem pl_eq (m : Wi.Msg) : (Wi.inB m.pep 0 1073741824 && (Wi.inB m.learner 0 5 && (decide (m.chain.length ≤ 5) && (Wi.areB 1 5 m.chain && (decide (m.lives.length ≤ 5) && m.lives.all Wi.lifeB))))) = Wi.placeB m := rfl
theorem good_true (m : Wi.Msg) (v : MsgV) (w : World) (h : MsgAt w m v) (ok : MsgOk m) (hcap : CapOk v.arecs) (hw : Lw w) (h1 : Wi.inB m.kind 1 9 = true) (h2 : Wi.unitB m.frm = true) (h3 : Wi.unitB m.«to» = true) (h4 : Wi.inB m.part 0 3 = true) (h5 : Wi.areB 0 1073741824 [m.ep,m.life] = true) (h6 : Wi.areB (-1) 1099511627776 [m.off,m.high] = true) (h7 : Wi.same m (Wi.only m) = true) :
  Calls Tryz.prog 44 #[msgV m v] w fun e w' => e = .returned (.bool (Wi.lastB m)) ∧ Below w.heap.size w w' := by
 have HPL := hq' (pl_eq m)
 have HCAP := hq' hcap
 have HLW := hq' hw
 clear hcap hw
 have HM := hq' h
 have HO := hq' ok
 obtain ⟨s0,c0,s1,c1,s2,c2,s3,c3,s4,c4,s5,c5,s6,c6,rfl⟩ := h.slices
 obtain ⟨x_kind,x_frm,x_to,x_part,x_ep,x_off,x_high,x_life,x_pep,x_chain,x_learner,x_lives,x_batch,x_table,x_req,x_resp⟩ := m
 dsimp only at *
 clear h ok
 have HK : Hid (1 ≤ x_kind ∧ x_kind ≤ 9) := by simpa [Hid,Wi.inB] using h1
 have G1 := hq' h1
 have G2 := hq' h2
 have G3 := hq' h3
 have G4 := hq' h4
 have G5 := hq' h5
 have G6 := hq' h6
 have G7 := hq' h7
 clear h1 h2 h3 h4 h5 h6 h7
 have HI38 := hq' (show (Tryz.prog.info? 44).map (·.size) = some ((.int .i64 x_kind::.int .i64 x_frm::.int .i64 x_to::xt x_part x_ep x_off x_high x_life x_pep x_chain x_learner x_lives x_batch x_table x_req x_resp s0 c0 s1 c1 s2 c2 s3 c3 s4 c4 s5 c5 s6 c6) : List Value).length by kernel_rfl)
 unfold msgV msgC
 dsimp only
 go_enter Tryz.func44,Tryz.ntmps44
 obtain ⟨w1,hw1,CA,B1⟩ := oneBox (w := w) (.int .i64 x_kind::.int .i64 x_frm::.int .i64 x_to::xt x_part x_ep x_off x_high x_life x_pep x_chain x_learner x_lives x_batch x_table x_req x_resp s0 c0 s1 c1 s2 c2 s3 c3 s4 c4 s5 c5 s6 c6) 44
 have HW1 := hq' hw1
 clear hw1
 go_upto_region 1 with (fail)
 first | rw [HW1.out] | skip
 clear HW1
 have M1 := hq' (HM.out.kept B1.out)
 have BW : Hid (∀ W,Below w1.heap.size w1 W → Below w.heap.size w W) := fun W h => bt B1.out h
 generalize w.heap.size = pa at CA ⊢
 clear HM
 go_cut [51] (fun t51 wz => t51 = .bool false ∧ Below w1.heap.size w1 wz)
 case first =>
  have m0 := fun x : AnyOf (gC w1 x_ep x_life x_off x_high 3) => gC.cell CA.out x (k := 0) rfl
  have m1 := fun x : AnyOf (gC w1 x_ep x_life x_off x_high 3) => gC.cell CA.out x (k := 1) rfl
  have m2 := fun x : AnyOf (gC w1 x_ep x_life x_off x_high 3) => gC.cell CA.out x (k := 2) rfl
  have m3 := fun x : AnyOf (gC w1 x_ep x_life x_off x_high 3) => gC.cell CA.out x (k := 3) rfl
  have m4 := fun x : AnyOf (gC w1 x_ep x_life x_off x_high 3) => gC.cell CA.out x (k := 4) rfl
  have m5 := fun x : AnyOf (gC w1 x_ep x_life x_off x_high 3) => gC.cell CA.out x (k := 5) rfl
  have m6 := fun x : AnyOf (gC w1 x_ep x_life x_off x_high 3) => gC.cell CA.out x (k := 6) rfl
  have m7 := fun x : AnyOf (gC w1 x_ep x_life x_off x_high 3) => gC.cell CA.out x (k := 7) rfl
  have hC0 : (gC w1 x_ep x_life x_off x_high 3) (Array.replicate 47 false) w1.drew := ⟨(Below.refl _ _).drew,fun _ => rfl,fun h => (by simp at h),fun h => (by simp at h),by simp⟩
  have hne : Nonempty (AnyOf (gC w1 x_ep x_life x_off x_high 3)) := ⟨⟨_,Array.replicate 47 false,hC0⟩⟩
  go_wp2
  refine wp_region_ranks (gC w1 x_ep x_life x_off x_high 3) _ (by kernel_rfl) (by kernel_rfl) rfl hC0 ?_
  refine rQuiet_head 2 (by decide) (by kernel_rfl) (fun i L W h1 h2 hc => hc.set (by omega) (by omega) (by omega) (by omega) (by omega)) ?_
  simp only [tk',t0',dk',d0']
  repeat (go_big_quiet_step (fail))
  refine wpQuiet_nil ?_
  refine rQuiet_call (f := 68) (args := #[.int .i64 x_kind,.int .i64 1,.int .i64 9]) (.bool true) rfl (fun w => by go_simp) (fun L w hD hi hc => (wwithin_any x_kind 1 9 w).mono fun e w' ⟨he,hw⟩ => ⟨by rw [he,G1.out],by rw [hw]; exact hc.set (by omega) (by omega) (by omega) (by omega) (by omega)⟩) ?_
  simp only [Act.put,ta',sz',ss']
  refine rQuiet_head 4 (by decide) (by kernel_rfl) (fun i L W h1 h2 hc => hc.set (by omega) (by omega) (by omega) (by omega) (by omega)) ?_
  simp only [tk',t0',dk',d0']
  repeat (go_big_quiet_step (fail))
  refine wpQuiet_nil ?_
  refine rQuiet_call (f := 69) (args := #[.int .i64 x_frm]) (.bool true) rfl (fun w => by go_simp) (fun L w hD hi hc => (isUnit_any x_frm w).mono fun e w' ⟨he,hw⟩ => ⟨by rw [he,G2.out],by rw [hw]; exact hc.set (by omega) (by omega) (by omega) (by omega) (by omega)⟩) ?_
  simp only [Act.put,ta',sz',ss']
  refine rQuiet_head 5 (by decide) (by kernel_rfl) (fun i L W h1 h2 hc => hc.set (by omega) (by omega) (by omega) (by omega) (by omega)) ?_
  simp only [tk',t0',dk',d0']
  repeat (go_big_quiet_step (fail))
  refine wpQuiet_nil ?_
  refine rQuiet_call (f := 69) (args := #[.int .i64 x_to]) (.bool true) rfl (fun w => by go_simp) (fun L w hD hi hc => (isUnit_any x_to w).mono fun e w' ⟨he,hw⟩ => ⟨by rw [he,G3.out],by rw [hw]; exact hc.set (by omega) (by omega) (by omega) (by omega) (by omega)⟩) ?_
  simp only [Act.put,ta',sz',ss']
  refine rQuiet_head 5 (by decide) (by kernel_rfl) (fun i L W h1 h2 hc => hc.set (by omega) (by omega) (by omega) (by omega) (by omega)) ?_
  simp only [tk',t0',dk',d0']
  repeat (go_big_quiet_step (fail))
  refine wpQuiet_nil ?_
  refine rQuiet_call (f := 68) (args := #[.int .i64 x_part,.int .i64 0,.int .i64 3]) (.bool true) rfl (fun w => by go_simp) (fun L w hD hi hc => (wwithin_any x_part 0 3 w).mono fun e w' ⟨he,hw⟩ => ⟨by rw [he,G4.out],by rw [hw]; exact hc.set (by omega) (by omega) (by omega) (by omega) (by omega)⟩) ?_
  simp only [Act.put,ta',sz',ss']
  refine rQuiet_head 7 (by decide) (by kernel_rfl) (fun i L W h1 h2 hc => hc.set (by omega) (by omega) (by omega) (by omega) (by omega)) ?_
  simp only [tk',t0',dk',d0']
  repeat (go_big_quiet_step (fail))
  refine wpQuiet_nil ?_
  refine rQuiet_value (.slice (some ⟨w1.heap.size,0,none⟩) 2 2) (fun W => W.alloc (.cells #[.int .i64 x_ep,.int .i64 x_life] 3)) rfl (fun L w hD hi hc => ?_) ?_
  ·have h27 := ready_not hi
   have h28 : L.getD 28 false = false := no_of (fun h => hD.wait (j := 28) (i := 27) (by kernel_rfl) h) h27
   have h36 : L.getD 36 false = false := no_of (fun h => hD.wait (j := 29) (i := 28) (by kernel_rfl) (hD.wait (j := 30) (i := 29) (by kernel_rfl) (hD.wait (j := 31) (i := 30) (by kernel_rfl) (hD.wait (j := 36) (i := 31) (by kernel_rfl) h)))) h28
   have h37 : L.getD 37 false = false := no_of (fun h => hD.wait (j := 37) (i := 36) (by kernel_rfl) h) h36
   have h43 : L.getD 43 false = false := no_of (fun h => hD.wait (j := 38) (i := 37) (by kernel_rfl) (hD.wait (j := 39) (i := 38) (by kernel_rfl) (hD.wait (j := 40) (i := 39) (by kernel_rfl) (hD.wait (j := 43) (i := 40) (by kernel_rfl) h)))) h37
   have hs := hc.s h43
   rw [gcnt,h27,h28,h36,h37] at hs
   have hs : w.heap.size = w1.heap.size := by simpa using hs
   refine ⟨by rw [← hs]; go_simp,?_⟩
   exact hc.build1 hs h28 h36 h37
  simp only [Act.put,ta',sz',ss']
  refine rQuiet_call (f := 70) (args := #[.int .i64 0,.int .i64 1073741824,.slice (some ⟨w1.heap.size,0,none⟩) 2 2]) (.bool true) rfl (fun w => by go_simp) (fun L w hD hi hc => ?_) ?_
  ·have h28 := ready_not hi
   have h27 := ready_wait hi (i := 27) (by kernel_rfl)
   have h36 : L.getD 36 false = false := no_of (fun h => hD.wait (j := 29) (i := 28) (by kernel_rfl) (hD.wait (j := 30) (i := 29) (by kernel_rfl) (hD.wait (j := 31) (i := 30) (by kernel_rfl) (hD.wait (j := 36) (i := 31) (by kernel_rfl) h)))) h28
   have h37 : L.getD 37 false = false := no_of (fun h => hD.wait (j := 37) (i := 36) (by kernel_rfl) h) h36
   have h43 : L.getD 43 false = false := no_of (fun h => hD.wait (j := 38) (i := 37) (by kernel_rfl) (hD.wait (j := 39) (i := 38) (by kernel_rfl) (hD.wait (j := 40) (i := 39) (by kernel_rfl) (hD.wait (j := 43) (i := 40) (by kernel_rfl) h)))) h37
   exact (are_sz [x_ep,x_life] (by simp [maxLen]) _ 0 1073741824 w (ints2_cl (hc.c1 h27))).mono fun e w' ⟨he,hb,hz⟩ => ⟨by rw [he,G5.out],hc.are1 hb hz h27 h28 h36 h37 h43⟩
  simp only [Act.put,ta',sz',ss']
  refine rQuiet_head 7 (by decide) (by kernel_rfl) (fun i L W h1 h2 hc => hc.set (by omega) (by omega) (by omega) (by omega) (by omega)) ?_
  simp only [tk',t0',dk',d0']
  repeat (go_big_quiet_step (fail))
  refine wpQuiet_nil ?_
  refine rQuiet_value (.slice (some ⟨w1.heap.size + 3,0,none⟩) 2 2) (fun W => W.alloc (.cells #[.int .i64 x_off,.int .i64 x_high] 3)) rfl (fun L w hD hi hc => ?_) ?_
  ·have h36 := ready_not hi
   have h28 : L.getD 28 false = true := hD.wait (j := 29) (i := 28) (by kernel_rfl) (hD.wait (j := 30) (i := 29) (by kernel_rfl) (hD.wait (j := 31) (i := 30) (by kernel_rfl) (ready_wait hi (i := 31) (by kernel_rfl))))
   have h27 : L.getD 27 false = true := hD.wait (j := 28) (i := 27) (by kernel_rfl) h28
   have h37 : L.getD 37 false = false := no_of (fun h => hD.wait (j := 37) (i := 36) (by kernel_rfl) h) h36
   have h43 : L.getD 43 false = false := no_of (fun h => hD.wait (j := 38) (i := 37) (by kernel_rfl) (hD.wait (j := 39) (i := 38) (by kernel_rfl) (hD.wait (j := 40) (i := 39) (by kernel_rfl) (hD.wait (j := 43) (i := 40) (by kernel_rfl) h)))) h37
   have hs := hc.s h43
   rw [gcnt,h27,h28,h36,h37] at hs
   have hs : w.heap.size = w1.heap.size + 3 := by simpa using hs
   refine ⟨by rw [← hs]; go_simp,?_⟩
   exact hc.build2 hs h27 h28 h37
  simp only [Act.put,ta',sz',ss']
  refine rQuiet_call (f := 70) (args := #[.int .i64 (-1),.int .i64 1099511627776,.slice (some ⟨w1.heap.size + 3,0,none⟩) 2 2]) (.bool true) rfl (fun w => by go_simp) (fun L w hD hi hc => ?_) ?_
  ·have h37 := ready_not hi
   have h36 := ready_wait hi (i := 36) (by kernel_rfl)
   have h28 : L.getD 28 false = true := hD.wait (j := 29) (i := 28) (by kernel_rfl) (hD.wait (j := 30) (i := 29) (by kernel_rfl) (hD.wait (j := 31) (i := 30) (by kernel_rfl) (hD.wait (j := 36) (i := 31) (by kernel_rfl) h36)))
   have h27 : L.getD 27 false = true := hD.wait (j := 28) (i := 27) (by kernel_rfl) h28
   have h43 : L.getD 43 false = false := no_of (fun h => hD.wait (j := 38) (i := 37) (by kernel_rfl) (hD.wait (j := 39) (i := 38) (by kernel_rfl) (hD.wait (j := 40) (i := 39) (by kernel_rfl) (hD.wait (j := 43) (i := 40) (by kernel_rfl) h)))) h37
   exact (are_sz [x_off,x_high] (by simp [maxLen]) _ (-1) 1099511627776 w (ints2_cl (hc.c2 h36))).mono fun e w' ⟨he,hb,hz⟩ => ⟨by rw [he,G6.out],hc.are2 hb hz h27 h28 h36 h37 h43⟩
  simp only [Act.put,ta',sz',ss']
  refine rQuiet_head 3 (by decide) (by kernel_rfl) (fun i L W h1 h2 hc => hc.set (by omega) (by omega) (by omega) (by omega) (by omega)) ?_
  simp only [tk',t0',dk',d0']
  repeat (go_big_quiet_step (fail))
  refine wpQuiet_nil ?_
  refine rQuiet_value (.agg (.int .i64 x_kind::.int .i64 x_frm::.int .i64 x_to::xt x_part x_ep x_off x_high x_life x_pep x_chain x_learner x_lives x_batch x_table x_req x_resp s0 c0 s1 c1 s2 c2 s3 c3 s4 c4 s5 c5 s6 c6).toArray) (fun W => W) rfl (fun L w hD hi hc => ⟨?_,hc.set (by omega) (by omega) (by omega) (by omega) (by omega)⟩) ?_
  ·have hl := run_loadAt_mid (P := Tryz.prog) w pa 0 44 (.int .i64 x_kind::.int .i64 x_frm::.int .i64 x_to::xt x_part x_ep x_off x_high x_life x_pep x_chain x_learner x_lives x_batch x_table x_req x_resp s0 c0 s1 c1 s2 c2 s3 c3 s4 c4 s5 c5 s6 c6) _ (Cl.below CA.out hc.b).range Tryz.underlying44 rfl HI38.out
   exact exec_load rfl rfl hl
  simp only [Act.put,ta',sz',ss']
  refine rQuiet_value (.agg (.int .i64 x_kind::.int .i64 x_frm::.int .i64 x_to::xt x_part x_ep x_off x_high x_life x_pep x_chain x_learner x_lives x_batch x_table x_req x_resp s0 c0 s1 c1 s2 c2 s3 c3 s4 c4 s5 c5 s6 c6).toArray) (fun W => W) rfl (fun L w hD hi hc => ⟨?_,hc.set (by omega) (by omega) (by omega) (by omega) (by omega)⟩) ?_
  ·have hl := run_loadAt_mid (P := Tryz.prog) w pa 0 44 (.int .i64 x_kind::.int .i64 x_frm::.int .i64 x_to::xt x_part x_ep x_off x_high x_life x_pep x_chain x_learner x_lives x_batch x_table x_req x_resp s0 c0 s1 c1 s2 c2 s3 c3 s4 c4 s5 c5 s6 c6) _ (Cl.below CA.out hc.b).range Tryz.underlying44 rfl HI38.out
   exact exec_load rfl rfl hl
  simp only [Act.put,ta',sz',ss']
  refine rQuiet_call (f := 71) (args := #[.agg (.int .i64 x_kind::.int .i64 x_frm::.int .i64 x_to::xt x_part x_ep x_off x_high x_life x_pep x_chain x_learner x_lives x_batch x_table x_req x_resp s0 c0 s1 c1 s2 c2 s3 c3 s4 c4 s5 c5 s6 c6).toArray]) (msgV (Wi.only ⟨x_kind,x_frm,x_to,x_part,x_ep,x_off,x_high,x_life,x_pep,x_chain,x_learner,x_lives,x_batch,x_table,x_req,x_resp⟩) (onlyV ⟨x_kind,x_frm,x_to,x_part,x_ep,x_off,x_high,x_life,x_pep,x_chain,x_learner,x_lives,x_batch,x_table,x_req,x_resp⟩ ⟨.slice s0 x_chain.length c0,.slice s1 x_lives.length c1,.slice s2 x_batch.recs.length c2,.slice s3 x_table.length c3,.slice s4 x_req.recs.length c4,.slice s5 x_resp.parts.length c5,.slice s6 x_resp.recs.length c6⟩)) rfl (fun w => by go_simp) (fun L w hD hi hc => ?_) ?_
  ·exact (only_any ⟨x_kind,x_frm,x_to,x_part,x_ep,x_off,x_high,x_life,x_pep,x_chain,x_learner,x_lives,x_batch,x_table,x_req,x_resp⟩ ⟨.slice s0 x_chain.length c0,.slice s1 x_lives.length c1,.slice s2 x_batch.recs.length c2,.slice s3 x_table.length c3,.slice s4 x_req.recs.length c4,.slice s5 x_resp.parts.length c5,.slice s6 x_resp.recs.length c6⟩ w (M1.out.kept hc.b) HK.out).mono fun e w' ⟨he,hb⟩ => ⟨he,hc.only hb⟩
  simp only [Act.put,ta',sz',ss']
  refine rQuiet_call (f := 22) (args := #[.agg (.int .i64 x_kind::.int .i64 x_frm::.int .i64 x_to::xt x_part x_ep x_off x_high x_life x_pep x_chain x_learner x_lives x_batch x_table x_req x_resp s0 c0 s1 c1 s2 c2 s3 c3 s4 c4 s5 c5 s6 c6).toArray,msgV (Wi.only ⟨x_kind,x_frm,x_to,x_part,x_ep,x_off,x_high,x_life,x_pep,x_chain,x_learner,x_lives,x_batch,x_table,x_req,x_resp⟩) (onlyV ⟨x_kind,x_frm,x_to,x_part,x_ep,x_off,x_high,x_life,x_pep,x_chain,x_learner,x_lives,x_batch,x_table,x_req,x_resp⟩ ⟨.slice s0 x_chain.length c0,.slice s1 x_lives.length c1,.slice s2 x_batch.recs.length c2,.slice s3 x_table.length c3,.slice s4 x_req.recs.length c4,.slice s5 x_resp.parts.length c5,.slice s6 x_resp.recs.length c6⟩)]) (.bool true) rfl (fun w => by go_simp) (fun L w hD hi hc => ?_) ?_
  ·have h43 := ready_wait hi (i := 43) (by kernel_rfl)
   exact (wsame_any ⟨x_kind,x_frm,x_to,x_part,x_ep,x_off,x_high,x_life,x_pep,x_chain,x_learner,x_lives,x_batch,x_table,x_req,x_resp⟩ (Wi.only ⟨x_kind,x_frm,x_to,x_part,x_ep,x_off,x_high,x_life,x_pep,x_chain,x_learner,x_lives,x_batch,x_table,x_req,x_resp⟩) ⟨.slice s0 x_chain.length c0,.slice s1 x_lives.length c1,.slice s2 x_batch.recs.length c2,.slice s3 x_table.length c3,.slice s4 x_req.recs.length c4,.slice s5 x_resp.parts.length c5,.slice s6 x_resp.recs.length c6⟩ (onlyV ⟨x_kind,x_frm,x_to,x_part,x_ep,x_off,x_high,x_life,x_pep,x_chain,x_learner,x_lives,x_batch,x_table,x_req,x_resp⟩ ⟨.slice s0 x_chain.length c0,.slice s1 x_lives.length c1,.slice s2 x_batch.recs.length c2,.slice s3 x_table.length c3,.slice s4 x_req.recs.length c4,.slice s5 x_resp.parts.length c5,.slice s6 x_resp.recs.length c6⟩) w (M1.out.kept hc.b) (M1.out.kept hc.b).only HO.out HO.out.only).mono fun e w' ⟨he,hb⟩ => ⟨by rw [he,G7.out],hc.late hb h43 (by omega) (by omega) (by omega)⟩
  simp only [Act.put,ta',sz',ss']
  refine rQuiet_head 2 (by decide) (by kernel_rfl) (fun i L W h1 h2 hc => hc.set (by omega) (by omega) (by omega) (by omega) (by omega)) ?_
  simp only [tk',t0',dk',d0']
  repeat (go_big_quiet_step (fail))
  refine wpQuiet_nil ?_
  intro w9 hw9
  have T4 := hq' hw9.b
  go_wp2
  go_meet
  case rel => exact ⟨rfl,T4.out⟩
 case rest =>
  obtain ⟨rfl,hwz⟩ := hcut
  have BZ := hq' (BW.out _ hwz)
  have MZ := hq' (M1.out.kept hwz)
  have C9 := hq' (Cl.below CA.out hwz)
  have k0 := C9.out.cell 0
  simp only [g0',gs'] at k0
  have hn := HO.out.n
  simp only [List.mem_cons,List.not_mem_nil,or_false,forall_eq_or_imp,forall_eq] at hn
  obtain ⟨n0,n1,n2,n3,n4,n5,n6,n7,n8,n9,q0,q1,q2,q3,q4,q5,q6,q7,r0,r1,r2,r3,r4,r5⟩ := hn
  have RQ : Hid (ReqOk x_req) := ⟨⟨q0,q1,q2,q3,q4,q5,q6,q7⟩,HO.out.q⟩
  have RP : Hid (RespOk x_resp) := ⟨⟨r0,r1,r2,r3,r4,r5⟩,HO.out.p,HO.out.a⟩
  clear n0 n1 n2 n3 n4 n5 n6 n7 n8 n9 q0 q1 q2 q3 q4 q5 q6 q7 r0 r1 r2 r3 r4 r5
  clear hwz CA M1 BW G1 G2 G3 G4 G5 G6 G7
  by_cases e1 : x_kind = 1
  ·subst e1
   as_aux_lemma =>
    have k19 := C9.out.cell 19
    have k20 := C9.out.cell 20
    have k21 := C9.out.cell 21
    have k22 := C9.out.cell 22
    have k23 := C9.out.cell 23
    have k24 := C9.out.cell 24
    have k25 := C9.out.cell 25
    have k26 := C9.out.cell 26
    have k27 := C9.out.cell 27
    have k28 := C9.out.cell 28
    have k29 := C9.out.cell 29
    simp only [g0',gs'] at k19
    simp only [g0',gs'] at k20
    simp only [g0',gs'] at k21
    simp only [g0',gs'] at k22
    simp only [g0',gs'] at k23
    simp only [g0',gs'] at k24
    simp only [g0',gs'] at k25
    simp only [g0',gs'] at k26
    simp only [g0',gs'] at k27
    simp only [g0',gs'] at k28
    simp only [g0',gs'] at k29
    have HQ := hq' (isReq_any x_req _ wc MZ.out.qrecs RQ.out)
    unfold wreqC at HQ
    go_wp2_with fail
    refine HQ.out.mono ?_
    rintro e w5 ⟨rfl,hb5⟩
    have B5 := hq' (bt BZ.out hb5)
    clear hb5
    go_wp2
    go_ret
    exact ⟨by simp [Wi.lastB],B5.out⟩
  by_cases e7 : x_kind = 7
  ·subst e7
   as_aux_lemma =>
    have k19 := C9.out.cell 19
    have k20 := C9.out.cell 20
    have k21 := C9.out.cell 21
    have k22 := C9.out.cell 22
    have k23 := C9.out.cell 23
    have k24 := C9.out.cell 24
    have k25 := C9.out.cell 25
    have k26 := C9.out.cell 26
    have k27 := C9.out.cell 27
    have k28 := C9.out.cell 28
    have k29 := C9.out.cell 29
    simp only [g0',gs'] at k19
    simp only [g0',gs'] at k20
    simp only [g0',gs'] at k21
    simp only [g0',gs'] at k22
    simp only [g0',gs'] at k23
    simp only [g0',gs'] at k24
    simp only [g0',gs'] at k25
    simp only [g0',gs'] at k26
    simp only [g0',gs'] at k27
    simp only [g0',gs'] at k28
    simp only [g0',gs'] at k29
    have HQ := hq' (isReq_any x_req _ wc MZ.out.qrecs RQ.out)
    unfold wreqC at HQ
    go_wp2_with fail
    refine HQ.out.mono ?_
    rintro e w5 ⟨rfl,hb5⟩
    have B5 := hq' (bt BZ.out hb5)
    clear hb5
    go_wp2
    go_ret
    exact ⟨by simp [Wi.lastB],B5.out⟩
  by_cases e2 : x_kind = 2
  ·subst e2
   as_aux_lemma =>
    have k30 := C9.out.cell 30
    have k31 := C9.out.cell 31
    have k32 := C9.out.cell 32
    have k33 := C9.out.cell 33
    have k34 := C9.out.cell 34
    have k35 := C9.out.cell 35
    have k36 := C9.out.cell 36
    have k37 := C9.out.cell 37
    simp only [g0',gs'] at k30
    simp only [g0',gs'] at k31
    simp only [g0',gs'] at k32
    simp only [g0',gs'] at k33
    simp only [g0',gs'] at k34
    simp only [g0',gs'] at k35
    simp only [g0',gs'] at k36
    simp only [g0',gs'] at k37
    have HQ := hq' (isResp_any x_resp _ _ wc MZ.out.parts MZ.out.arecs RP.out HCAP.out)
    unfold wrespC at HQ
    go_wp2_with fail
    refine HQ.out.mono ?_
    rintro e w5 ⟨rfl,hb5⟩
    have B5 := hq' (bt BZ.out hb5)
    clear hb5
    go_wp2
    go_ret
    exact ⟨by simp [Wi.lastB],B5.out⟩
  by_cases e4 : x_kind = 4
  ·subst e4
   as_aux_lemma =>
    have k8 := C9.out.cell 8
    have k9 := C9.out.cell 9
    have k10 := C9.out.cell 10
    have k11 := C9.out.cell 11
    simp only [g0',gs'] at k8
    simp only [g0',gs'] at k9
    simp only [g0',gs'] at k10
    simp only [g0',gs'] at k11
    have HQ := hq' (isPlace_any x_pep x_learner x_chain x_lives _ _ wc MZ.out.chain HO.out.c.1 MZ.out.lives HO.out.l.1)
    skip
    go_wp2_with fail
    refine HQ.out.mono ?_
    rintro e w5 ⟨rfl,hb5⟩
    have B5 := hq' (bt BZ.out hb5)
    clear hb5
    go_wp2
    go_ret
    exact ⟨by rw [show _ = _ from HPL.out]; simp [Wi.lastB],B5.out⟩
  by_cases e5 : x_kind = 5
  ·subst e5
   as_aux_lemma =>
    have k12 := C9.out.cell 12
    have k13 := C9.out.cell 13
    have k14 := C9.out.cell 14
    have k15 := C9.out.cell 15
    have k16 := C9.out.cell 16
    have k17 := C9.out.cell 17
    simp only [g0',gs'] at k12
    simp only [g0',gs'] at k13
    simp only [g0',gs'] at k14
    simp only [g0',gs'] at k15
    simp only [g0',gs'] at k16
    simp only [g0',gs'] at k17
    have HQ := hq' (good_any x_batch HO.out.b _ wc MZ.out.brecs)
    unfold batV at HQ
    go_wp2_with fail
    refine HQ.out.mono ?_
    rintro e w5 ⟨rfl,hb5⟩
    have B5 := hq' (bt BZ.out hb5)
    clear hb5
    go_wp2
    go_ret
    exact ⟨by simp [Wi.lastB],B5.out⟩
  by_cases e8 : x_kind = 8
  ·subst e8
   have k18 := C9.out.cell 18
   simp only [g0',gs'] at k18
   cases htb : Wi.tableB x_table
   ·as_aux_lemma =>
     have HQ := hq' (lenc_no x_table HO.out.t _ wc MZ.out.table htb)
     have HTB := hq' htb
     clear htb
     go_wp2_with fail
     refine HQ.out.mono ?_
     rintro e w5 ⟨rfl,hb5⟩
     have B5 := hq' (bt BZ.out hb5)
     clear hb5
     go_wp2
     go_ret
     exact ⟨by simp [Wi.lastB,HTB.out],B5.out⟩
   ·as_aux_lemma =>
     have HQ := hq' (lenc_yes x_table HO.out.t _ wc MZ.out.table (HLW.out.below BZ.out) htb)
     have HTB := hq' htb
     clear htb
     go_wp2_with fail
     refine HQ.out.mono ?_
     rintro e w5 ⟨rfl,hb5⟩
     have B5 := hq' (bt BZ.out hb5)
     clear hb5
     go_wp2
     go_ret
     exact ⟨by simp [Wi.lastB,HTB.out],B5.out⟩
  as_aux_lemma =>
   go_wp2
   go_ret
   exact ⟨by simp [Wi.lastB,e1,e2,e4,e5,e7,e8],BZ.out⟩
theorem good_f2 (m : Wi.Msg) (v : MsgV) (w : World) (h : MsgAt w m v) (ok : MsgOk m) (h1 : Wi.inB m.kind 1 9 = true) (h2 : Wi.unitB m.frm = false) :
  Calls Tryz.prog 44 #[msgV m v] w fun e w' => e = .returned (.bool false) ∧ Below w.heap.size w w' := by
 have HM := hq' h
 have HO := hq' ok
 obtain ⟨s0,c0,s1,c1,s2,c2,s3,c3,s4,c4,s5,c5,s6,c6,rfl⟩ := h.slices
 obtain ⟨x_kind,x_frm,x_to,x_part,x_ep,x_off,x_high,x_life,x_pep,x_chain,x_learner,x_lives,x_batch,x_table,x_req,x_resp⟩ := m
 dsimp only at *
 clear h ok
 have HK : Hid (1 ≤ x_kind ∧ x_kind ≤ 9) := by simpa [Hid,Wi.inB] using h1
 have G1 := hq' h1
 have G2 := hq' h2
 clear h1 h2
 have HI38 := hq' (show (Tryz.prog.info? 44).map (·.size) = some ((.int .i64 x_kind::.int .i64 x_frm::.int .i64 x_to::xt x_part x_ep x_off x_high x_life x_pep x_chain x_learner x_lives x_batch x_table x_req x_resp s0 c0 s1 c1 s2 c2 s3 c3 s4 c4 s5 c5 s6 c6) : List Value).length by kernel_rfl)
 unfold msgV msgC
 dsimp only
 go_enter Tryz.func44,Tryz.ntmps44
 obtain ⟨w1,hw1,CA,B1⟩ := oneBox (w := w) (.int .i64 x_kind::.int .i64 x_frm::.int .i64 x_to::xt x_part x_ep x_off x_high x_life x_pep x_chain x_learner x_lives x_batch x_table x_req x_resp s0 c0 s1 c1 s2 c2 s3 c3 s4 c4 s5 c5 s6 c6) 44
 have HW1 := hq' hw1
 clear hw1
 go_upto_region 1 with (fail)
 first | rw [HW1.out] | skip
 clear HW1
 have M1 := hq' (HM.out.kept B1.out)
 have BW : Hid (∀ W,Below w1.heap.size w1 W → Below w.heap.size w W) := fun W h => bt B1.out h
 generalize w.heap.size = pa at CA ⊢
 clear HM
 go_cut [51] (fun t51 wz => t51 = .bool true ∧ Below w1.heap.size w1 wz)
 case first =>
  have m0 : ∀ y : AnyOf (fun (L : Array Bool) (W : World) => W = w1.drew),y.1.cell? ⟨pa,0,none⟩ = some (.int .i64 x_kind) := fun y => by
   obtain ⟨L,hL⟩ := y.2
   rw [show y.1 = w1.drew from hL]
   exact CA.out.cell 0
  have m1 : ∀ y : AnyOf (fun (L : Array Bool) (W : World) => W = w1.drew),y.1.cell? ⟨pa,1,none⟩ = some (.int .i64 x_frm) := fun y => by
   obtain ⟨L,hL⟩ := y.2
   rw [show y.1 = w1.drew from hL]
   exact CA.out.cell 1
  have m2 : ∀ y : AnyOf (fun (L : Array Bool) (W : World) => W = w1.drew),y.1.cell? ⟨pa,2,none⟩ = some (.int .i64 x_to) := fun y => by
   obtain ⟨L,hL⟩ := y.2
   rw [show y.1 = w1.drew from hL]
   exact CA.out.cell 2
  have m3 : ∀ y : AnyOf (fun (L : Array Bool) (W : World) => W = w1.drew),y.1.cell? ⟨pa,3,none⟩ = some (.int .i64 x_part) := fun y => by
   obtain ⟨L,hL⟩ := y.2
   rw [show y.1 = w1.drew from hL]
   exact CA.out.cell 3
  have m4 : ∀ y : AnyOf (fun (L : Array Bool) (W : World) => W = w1.drew),y.1.cell? ⟨pa,4,none⟩ = some (.int .i64 x_ep) := fun y => by
   obtain ⟨L,hL⟩ := y.2
   rw [show y.1 = w1.drew from hL]
   exact CA.out.cell 4
  have m5 : ∀ y : AnyOf (fun (L : Array Bool) (W : World) => W = w1.drew),y.1.cell? ⟨pa,5,none⟩ = some (.int .i64 x_off) := fun y => by
   obtain ⟨L,hL⟩ := y.2
   rw [show y.1 = w1.drew from hL]
   exact CA.out.cell 5
  have m6 : ∀ y : AnyOf (fun (L : Array Bool) (W : World) => W = w1.drew),y.1.cell? ⟨pa,6,none⟩ = some (.int .i64 x_high) := fun y => by
   obtain ⟨L,hL⟩ := y.2
   rw [show y.1 = w1.drew from hL]
   exact CA.out.cell 6
  have m7 : ∀ y : AnyOf (fun (L : Array Bool) (W : World) => W = w1.drew),y.1.cell? ⟨pa,7,none⟩ = some (.int .i64 x_life) := fun y => by
   obtain ⟨L,hL⟩ := y.2
   rw [show y.1 = w1.drew from hL]
   exact CA.out.cell 7
  have hC0 : (fun (L : Array Bool) (W : World) => W = w1.drew) (Array.replicate 47 false) w1.drew := rfl
  have hne : Nonempty (AnyOf (fun (L : Array Bool) (W : World) => W = w1.drew)) := ⟨⟨_,Array.replicate 47 false,hC0⟩⟩
  go_wp2
  refine wp_region_ranks (fun (L : Array Bool) (W : World) => W = w1.drew) _ (by kernel_rfl) (by kernel_rfl) rfl rfl ?_
  refine rQuiet_head 2 (by decide) (by kernel_rfl) (fun i L W h1 h2 hc => hc) ?_
  simp only [tk',t0',dk',d0']
  repeat (go_big_quiet_step (fail))
  refine wpQuiet_nil ?_
  refine rQuiet_call (f := 68) (args := #[.int .i64 x_kind,.int .i64 1,.int .i64 9]) (.bool true) rfl (fun w => by go_simp) (fun L w hD hi hc => (wwithin_any x_kind 1 9 w).mono fun e w' ⟨he,hw⟩ => ⟨by rw [he,G1.out],by rw [hw]; exact hc⟩) ?_
  simp only [Act.put,ta',sz',ss']
  refine rQuiet_head 4 (by decide) (by kernel_rfl) (fun i L W h1 h2 hc => hc) ?_
  simp only [tk',t0',dk',d0']
  repeat (go_big_quiet_step (fail))
  refine wpQuiet_nil ?_
  refine rQuiet_call (f := 69) (args := #[.int .i64 x_frm]) (.bool false) rfl (fun w => by go_simp) (fun L w hD hi hc => (isUnit_any x_frm w).mono fun e w' ⟨he,hw⟩ => ⟨by rw [he,G2.out],by rw [hw]; exact hc⟩) ?_
  simp only [Act.put,ta',sz',ss']
  refine rQuiet_head 5 (by decide) (by kernel_rfl) (fun i L W h1 h2 hc => hc) ?_
  simp only [tk',t0',dk',d0']
  repeat (go_big_quiet_step (fail))
  refine wpQuiet_nil ?_
  refine rQuiet_none (by go_simp) (fun L w hD hi hc => hc) ?_
  simp only [Act.put,ta',sz',ss']
  refine rQuiet_head 5 (by decide) (by kernel_rfl) (fun i L W h1 h2 hc => hc) ?_
  simp only [tk',t0',dk',d0']
  repeat (go_big_quiet_step (fail))
  refine wpQuiet_nil ?_
  refine rQuiet_none (by go_simp) (fun L w hD hi hc => hc) ?_
  simp only [Act.put,ta',sz',ss']
  refine rQuiet_head 7 (by decide) (by kernel_rfl) (fun i L W h1 h2 hc => hc) ?_
  simp only [tk',t0',dk',d0']
  repeat (go_big_quiet_step (fail))
  refine wpQuiet_nil ?_
  refine rQuiet_none (by go_simp) (fun L w hD hi hc => hc) ?_
  simp only [Act.put,ta',sz',ss']
  refine rQuiet_none (by go_simp) (fun L w hD hi hc => hc) ?_
  simp only [Act.put,ta',sz',ss']
  refine rQuiet_head 7 (by decide) (by kernel_rfl) (fun i L W h1 h2 hc => hc) ?_
  simp only [tk',t0',dk',d0']
  repeat (go_big_quiet_step (fail))
  refine wpQuiet_nil ?_
  refine rQuiet_none (by go_simp) (fun L w hD hi hc => hc) ?_
  simp only [Act.put,ta',sz',ss']
  refine rQuiet_none (by go_simp) (fun L w hD hi hc => hc) ?_
  simp only [Act.put,ta',sz',ss']
  refine rQuiet_head 3 (by decide) (by kernel_rfl) (fun i L W h1 h2 hc => hc) ?_
  simp only [tk',t0',dk',d0']
  repeat (go_big_quiet_step (fail))
  refine wpQuiet_nil ?_
  refine rQuiet_none (by go_simp) (fun L w hD hi hc => hc) ?_
  simp only [Act.put,ta',sz',ss']
  refine rQuiet_none (by go_simp) (fun L w hD hi hc => hc) ?_
  simp only [Act.put,ta',sz',ss']
  refine rQuiet_none (by go_simp) (fun L w hD hi hc => hc) ?_
  simp only [Act.put,ta',sz',ss']
  refine rQuiet_none (by go_simp) (fun L w hD hi hc => hc) ?_
  simp only [Act.put,ta',sz',ss']
  refine rQuiet_head 2 (by decide) (by kernel_rfl) (fun i L W h1 h2 hc => hc) ?_
  simp only [tk',t0',dk',d0']
  repeat (go_big_quiet_step (fail))
  refine wpQuiet_nil ?_
  intro w9 hw9
  have T4 := hq' hw9
  go_wp2
  go_meet
  case rel => exact ⟨rfl,by rw [show w9 = w1.drew from T4.out]; exact (Below.refl _ _).drew⟩
 case rest =>
  obtain ⟨rfl,hwz⟩ := hcut
  have BZ := hq' (BW.out _ hwz)
  clear hwz CA
  go_wp2
  go_ret
  exact ⟨rfl,BZ.out⟩
theorem good_f3 (m : Wi.Msg) (v : MsgV) (w : World) (h : MsgAt w m v) (ok : MsgOk m) (h1 : Wi.inB m.kind 1 9 = true) (h2 : Wi.unitB m.frm = true) (h3 : Wi.unitB m.«to» = false) :
  Calls Tryz.prog 44 #[msgV m v] w fun e w' => e = .returned (.bool false) ∧ Below w.heap.size w w' := by
 have HM := hq' h
 have HO := hq' ok
 obtain ⟨s0,c0,s1,c1,s2,c2,s3,c3,s4,c4,s5,c5,s6,c6,rfl⟩ := h.slices
 obtain ⟨x_kind,x_frm,x_to,x_part,x_ep,x_off,x_high,x_life,x_pep,x_chain,x_learner,x_lives,x_batch,x_table,x_req,x_resp⟩ := m
 dsimp only at *
 clear h ok
 have HK : Hid (1 ≤ x_kind ∧ x_kind ≤ 9) := by simpa [Hid,Wi.inB] using h1
 have G1 := hq' h1
 have G2 := hq' h2
 have G3 := hq' h3
 clear h1 h2 h3
 have HI38 := hq' (show (Tryz.prog.info? 44).map (·.size) = some ((.int .i64 x_kind::.int .i64 x_frm::.int .i64 x_to::xt x_part x_ep x_off x_high x_life x_pep x_chain x_learner x_lives x_batch x_table x_req x_resp s0 c0 s1 c1 s2 c2 s3 c3 s4 c4 s5 c5 s6 c6) : List Value).length by kernel_rfl)
 unfold msgV msgC
 dsimp only
 go_enter Tryz.func44,Tryz.ntmps44
 obtain ⟨w1,hw1,CA,B1⟩ := oneBox (w := w) (.int .i64 x_kind::.int .i64 x_frm::.int .i64 x_to::xt x_part x_ep x_off x_high x_life x_pep x_chain x_learner x_lives x_batch x_table x_req x_resp s0 c0 s1 c1 s2 c2 s3 c3 s4 c4 s5 c5 s6 c6) 44
 have HW1 := hq' hw1
 clear hw1
 go_upto_region 1 with (fail)
 first | rw [HW1.out] | skip
 clear HW1
 have M1 := hq' (HM.out.kept B1.out)
 have BW : Hid (∀ W,Below w1.heap.size w1 W → Below w.heap.size w W) := fun W h => bt B1.out h
 generalize w.heap.size = pa at CA ⊢
 clear HM
 go_cut [51] (fun t51 wz => t51 = .bool true ∧ Below w1.heap.size w1 wz)
 case first =>
  have m0 : ∀ y : AnyOf (fun (L : Array Bool) (W : World) => W = w1.drew),y.1.cell? ⟨pa,0,none⟩ = some (.int .i64 x_kind) := fun y => by
   obtain ⟨L,hL⟩ := y.2
   rw [show y.1 = w1.drew from hL]
   exact CA.out.cell 0
  have m1 : ∀ y : AnyOf (fun (L : Array Bool) (W : World) => W = w1.drew),y.1.cell? ⟨pa,1,none⟩ = some (.int .i64 x_frm) := fun y => by
   obtain ⟨L,hL⟩ := y.2
   rw [show y.1 = w1.drew from hL]
   exact CA.out.cell 1
  have m2 : ∀ y : AnyOf (fun (L : Array Bool) (W : World) => W = w1.drew),y.1.cell? ⟨pa,2,none⟩ = some (.int .i64 x_to) := fun y => by
   obtain ⟨L,hL⟩ := y.2
   rw [show y.1 = w1.drew from hL]
   exact CA.out.cell 2
  have m3 : ∀ y : AnyOf (fun (L : Array Bool) (W : World) => W = w1.drew),y.1.cell? ⟨pa,3,none⟩ = some (.int .i64 x_part) := fun y => by
   obtain ⟨L,hL⟩ := y.2
   rw [show y.1 = w1.drew from hL]
   exact CA.out.cell 3
  have m4 : ∀ y : AnyOf (fun (L : Array Bool) (W : World) => W = w1.drew),y.1.cell? ⟨pa,4,none⟩ = some (.int .i64 x_ep) := fun y => by
   obtain ⟨L,hL⟩ := y.2
   rw [show y.1 = w1.drew from hL]
   exact CA.out.cell 4
  have m5 : ∀ y : AnyOf (fun (L : Array Bool) (W : World) => W = w1.drew),y.1.cell? ⟨pa,5,none⟩ = some (.int .i64 x_off) := fun y => by
   obtain ⟨L,hL⟩ := y.2
   rw [show y.1 = w1.drew from hL]
   exact CA.out.cell 5
  have m6 : ∀ y : AnyOf (fun (L : Array Bool) (W : World) => W = w1.drew),y.1.cell? ⟨pa,6,none⟩ = some (.int .i64 x_high) := fun y => by
   obtain ⟨L,hL⟩ := y.2
   rw [show y.1 = w1.drew from hL]
   exact CA.out.cell 6
  have m7 : ∀ y : AnyOf (fun (L : Array Bool) (W : World) => W = w1.drew),y.1.cell? ⟨pa,7,none⟩ = some (.int .i64 x_life) := fun y => by
   obtain ⟨L,hL⟩ := y.2
   rw [show y.1 = w1.drew from hL]
   exact CA.out.cell 7
  have hC0 : (fun (L : Array Bool) (W : World) => W = w1.drew) (Array.replicate 47 false) w1.drew := rfl
  have hne : Nonempty (AnyOf (fun (L : Array Bool) (W : World) => W = w1.drew)) := ⟨⟨_,Array.replicate 47 false,hC0⟩⟩
  go_wp2
  refine wp_region_ranks (fun (L : Array Bool) (W : World) => W = w1.drew) _ (by kernel_rfl) (by kernel_rfl) rfl rfl ?_
  refine rQuiet_head 2 (by decide) (by kernel_rfl) (fun i L W h1 h2 hc => hc) ?_
  simp only [tk',t0',dk',d0']
  repeat (go_big_quiet_step (fail))
  refine wpQuiet_nil ?_
  refine rQuiet_call (f := 68) (args := #[.int .i64 x_kind,.int .i64 1,.int .i64 9]) (.bool true) rfl (fun w => by go_simp) (fun L w hD hi hc => (wwithin_any x_kind 1 9 w).mono fun e w' ⟨he,hw⟩ => ⟨by rw [he,G1.out],by rw [hw]; exact hc⟩) ?_
  simp only [Act.put,ta',sz',ss']
  refine rQuiet_head 4 (by decide) (by kernel_rfl) (fun i L W h1 h2 hc => hc) ?_
  simp only [tk',t0',dk',d0']
  repeat (go_big_quiet_step (fail))
  refine wpQuiet_nil ?_
  refine rQuiet_call (f := 69) (args := #[.int .i64 x_frm]) (.bool true) rfl (fun w => by go_simp) (fun L w hD hi hc => (isUnit_any x_frm w).mono fun e w' ⟨he,hw⟩ => ⟨by rw [he,G2.out],by rw [hw]; exact hc⟩) ?_
  simp only [Act.put,ta',sz',ss']
  refine rQuiet_head 5 (by decide) (by kernel_rfl) (fun i L W h1 h2 hc => hc) ?_
  simp only [tk',t0',dk',d0']
  repeat (go_big_quiet_step (fail))
  refine wpQuiet_nil ?_
  refine rQuiet_call (f := 69) (args := #[.int .i64 x_to]) (.bool false) rfl (fun w => by go_simp) (fun L w hD hi hc => (isUnit_any x_to w).mono fun e w' ⟨he,hw⟩ => ⟨by rw [he,G3.out],by rw [hw]; exact hc⟩) ?_
  simp only [Act.put,ta',sz',ss']
  refine rQuiet_head 5 (by decide) (by kernel_rfl) (fun i L W h1 h2 hc => hc) ?_
  simp only [tk',t0',dk',d0']
  repeat (go_big_quiet_step (fail))
  refine wpQuiet_nil ?_
  refine rQuiet_none (by go_simp) (fun L w hD hi hc => hc) ?_
  simp only [Act.put,ta',sz',ss']
  refine rQuiet_head 7 (by decide) (by kernel_rfl) (fun i L W h1 h2 hc => hc) ?_
  simp only [tk',t0',dk',d0']
  repeat (go_big_quiet_step (fail))
  refine wpQuiet_nil ?_
  refine rQuiet_none (by go_simp) (fun L w hD hi hc => hc) ?_
  simp only [Act.put,ta',sz',ss']
  refine rQuiet_none (by go_simp) (fun L w hD hi hc => hc) ?_
  simp only [Act.put,ta',sz',ss']
  refine rQuiet_head 7 (by decide) (by kernel_rfl) (fun i L W h1 h2 hc => hc) ?_
  simp only [tk',t0',dk',d0']
  repeat (go_big_quiet_step (fail))
  refine wpQuiet_nil ?_
  refine rQuiet_none (by go_simp) (fun L w hD hi hc => hc) ?_
  simp only [Act.put,ta',sz',ss']
  refine rQuiet_none (by go_simp) (fun L w hD hi hc => hc) ?_
  simp only [Act.put,ta',sz',ss']
  refine rQuiet_head 3 (by decide) (by kernel_rfl) (fun i L W h1 h2 hc => hc) ?_
  simp only [tk',t0',dk',d0']
  repeat (go_big_quiet_step (fail))
  refine wpQuiet_nil ?_
  refine rQuiet_none (by go_simp) (fun L w hD hi hc => hc) ?_
  simp only [Act.put,ta',sz',ss']
  refine rQuiet_none (by go_simp) (fun L w hD hi hc => hc) ?_
  simp only [Act.put,ta',sz',ss']
  refine rQuiet_none (by go_simp) (fun L w hD hi hc => hc) ?_
  simp only [Act.put,ta',sz',ss']
  refine rQuiet_none (by go_simp) (fun L w hD hi hc => hc) ?_
  simp only [Act.put,ta',sz',ss']
  refine rQuiet_head 2 (by decide) (by kernel_rfl) (fun i L W h1 h2 hc => hc) ?_
  simp only [tk',t0',dk',d0']
  repeat (go_big_quiet_step (fail))
  refine wpQuiet_nil ?_
  intro w9 hw9
  have T4 := hq' hw9
  go_wp2
  go_meet
  case rel => exact ⟨rfl,by rw [show w9 = w1.drew from T4.out]; exact (Below.refl _ _).drew⟩
 case rest =>
  obtain ⟨rfl,hwz⟩ := hcut
  have BZ := hq' (BW.out _ hwz)
  clear hwz CA
  go_wp2
  go_ret
  exact ⟨rfl,BZ.out⟩
theorem good_f4 (m : Wi.Msg) (v : MsgV) (w : World) (h : MsgAt w m v) (ok : MsgOk m) (h1 : Wi.inB m.kind 1 9 = true) (h2 : Wi.unitB m.frm = true) (h3 : Wi.unitB m.«to» = true) (h4 : Wi.inB m.part 0 3 = false) :
  Calls Tryz.prog 44 #[msgV m v] w fun e w' => e = .returned (.bool false) ∧ Below w.heap.size w w' := by
 have HM := hq' h
 have HO := hq' ok
 obtain ⟨s0,c0,s1,c1,s2,c2,s3,c3,s4,c4,s5,c5,s6,c6,rfl⟩ := h.slices
 obtain ⟨x_kind,x_frm,x_to,x_part,x_ep,x_off,x_high,x_life,x_pep,x_chain,x_learner,x_lives,x_batch,x_table,x_req,x_resp⟩ := m
 dsimp only at *
 clear h ok
 have HK : Hid (1 ≤ x_kind ∧ x_kind ≤ 9) := by simpa [Hid,Wi.inB] using h1
 have G1 := hq' h1
 have G2 := hq' h2
 have G3 := hq' h3
 have G4 := hq' h4
 clear h1 h2 h3 h4
 have HI38 := hq' (show (Tryz.prog.info? 44).map (·.size) = some ((.int .i64 x_kind::.int .i64 x_frm::.int .i64 x_to::xt x_part x_ep x_off x_high x_life x_pep x_chain x_learner x_lives x_batch x_table x_req x_resp s0 c0 s1 c1 s2 c2 s3 c3 s4 c4 s5 c5 s6 c6) : List Value).length by kernel_rfl)
 unfold msgV msgC
 dsimp only
 go_enter Tryz.func44,Tryz.ntmps44
 obtain ⟨w1,hw1,CA,B1⟩ := oneBox (w := w) (.int .i64 x_kind::.int .i64 x_frm::.int .i64 x_to::xt x_part x_ep x_off x_high x_life x_pep x_chain x_learner x_lives x_batch x_table x_req x_resp s0 c0 s1 c1 s2 c2 s3 c3 s4 c4 s5 c5 s6 c6) 44
 have HW1 := hq' hw1
 clear hw1
 go_upto_region 1 with (fail)
 first | rw [HW1.out] | skip
 clear HW1
 have M1 := hq' (HM.out.kept B1.out)
 have BW : Hid (∀ W,Below w1.heap.size w1 W → Below w.heap.size w W) := fun W h => bt B1.out h
 generalize w.heap.size = pa at CA ⊢
 clear HM
 go_cut [51] (fun t51 wz => t51 = .bool true ∧ Below w1.heap.size w1 wz)
 case first =>
  have m0 : ∀ y : AnyOf (fun (L : Array Bool) (W : World) => W = w1.drew),y.1.cell? ⟨pa,0,none⟩ = some (.int .i64 x_kind) := fun y => by
   obtain ⟨L,hL⟩ := y.2
   rw [show y.1 = w1.drew from hL]
   exact CA.out.cell 0
  have m1 : ∀ y : AnyOf (fun (L : Array Bool) (W : World) => W = w1.drew),y.1.cell? ⟨pa,1,none⟩ = some (.int .i64 x_frm) := fun y => by
   obtain ⟨L,hL⟩ := y.2
   rw [show y.1 = w1.drew from hL]
   exact CA.out.cell 1
  have m2 : ∀ y : AnyOf (fun (L : Array Bool) (W : World) => W = w1.drew),y.1.cell? ⟨pa,2,none⟩ = some (.int .i64 x_to) := fun y => by
   obtain ⟨L,hL⟩ := y.2
   rw [show y.1 = w1.drew from hL]
   exact CA.out.cell 2
  have m3 : ∀ y : AnyOf (fun (L : Array Bool) (W : World) => W = w1.drew),y.1.cell? ⟨pa,3,none⟩ = some (.int .i64 x_part) := fun y => by
   obtain ⟨L,hL⟩ := y.2
   rw [show y.1 = w1.drew from hL]
   exact CA.out.cell 3
  have m4 : ∀ y : AnyOf (fun (L : Array Bool) (W : World) => W = w1.drew),y.1.cell? ⟨pa,4,none⟩ = some (.int .i64 x_ep) := fun y => by
   obtain ⟨L,hL⟩ := y.2
   rw [show y.1 = w1.drew from hL]
   exact CA.out.cell 4
  have m5 : ∀ y : AnyOf (fun (L : Array Bool) (W : World) => W = w1.drew),y.1.cell? ⟨pa,5,none⟩ = some (.int .i64 x_off) := fun y => by
   obtain ⟨L,hL⟩ := y.2
   rw [show y.1 = w1.drew from hL]
   exact CA.out.cell 5
  have m6 : ∀ y : AnyOf (fun (L : Array Bool) (W : World) => W = w1.drew),y.1.cell? ⟨pa,6,none⟩ = some (.int .i64 x_high) := fun y => by
   obtain ⟨L,hL⟩ := y.2
   rw [show y.1 = w1.drew from hL]
   exact CA.out.cell 6
  have m7 : ∀ y : AnyOf (fun (L : Array Bool) (W : World) => W = w1.drew),y.1.cell? ⟨pa,7,none⟩ = some (.int .i64 x_life) := fun y => by
   obtain ⟨L,hL⟩ := y.2
   rw [show y.1 = w1.drew from hL]
   exact CA.out.cell 7
  have hC0 : (fun (L : Array Bool) (W : World) => W = w1.drew) (Array.replicate 47 false) w1.drew := rfl
  have hne : Nonempty (AnyOf (fun (L : Array Bool) (W : World) => W = w1.drew)) := ⟨⟨_,Array.replicate 47 false,hC0⟩⟩
  go_wp2
  refine wp_region_ranks (fun (L : Array Bool) (W : World) => W = w1.drew) _ (by kernel_rfl) (by kernel_rfl) rfl rfl ?_
  refine rQuiet_head 2 (by decide) (by kernel_rfl) (fun i L W h1 h2 hc => hc) ?_
  simp only [tk',t0',dk',d0']
  repeat (go_big_quiet_step (fail))
  refine wpQuiet_nil ?_
  refine rQuiet_call (f := 68) (args := #[.int .i64 x_kind,.int .i64 1,.int .i64 9]) (.bool true) rfl (fun w => by go_simp) (fun L w hD hi hc => (wwithin_any x_kind 1 9 w).mono fun e w' ⟨he,hw⟩ => ⟨by rw [he,G1.out],by rw [hw]; exact hc⟩) ?_
  simp only [Act.put,ta',sz',ss']
  refine rQuiet_head 4 (by decide) (by kernel_rfl) (fun i L W h1 h2 hc => hc) ?_
  simp only [tk',t0',dk',d0']
  repeat (go_big_quiet_step (fail))
  refine wpQuiet_nil ?_
  refine rQuiet_call (f := 69) (args := #[.int .i64 x_frm]) (.bool true) rfl (fun w => by go_simp) (fun L w hD hi hc => (isUnit_any x_frm w).mono fun e w' ⟨he,hw⟩ => ⟨by rw [he,G2.out],by rw [hw]; exact hc⟩) ?_
  simp only [Act.put,ta',sz',ss']
  refine rQuiet_head 5 (by decide) (by kernel_rfl) (fun i L W h1 h2 hc => hc) ?_
  simp only [tk',t0',dk',d0']
  repeat (go_big_quiet_step (fail))
  refine wpQuiet_nil ?_
  refine rQuiet_call (f := 69) (args := #[.int .i64 x_to]) (.bool true) rfl (fun w => by go_simp) (fun L w hD hi hc => (isUnit_any x_to w).mono fun e w' ⟨he,hw⟩ => ⟨by rw [he,G3.out],by rw [hw]; exact hc⟩) ?_
  simp only [Act.put,ta',sz',ss']
  refine rQuiet_head 5 (by decide) (by kernel_rfl) (fun i L W h1 h2 hc => hc) ?_
  simp only [tk',t0',dk',d0']
  repeat (go_big_quiet_step (fail))
  refine wpQuiet_nil ?_
  refine rQuiet_call (f := 68) (args := #[.int .i64 x_part,.int .i64 0,.int .i64 3]) (.bool false) rfl (fun w => by go_simp) (fun L w hD hi hc => (wwithin_any x_part 0 3 w).mono fun e w' ⟨he,hw⟩ => ⟨by rw [he,G4.out],by rw [hw]; exact hc⟩) ?_
  simp only [Act.put,ta',sz',ss']
  refine rQuiet_head 7 (by decide) (by kernel_rfl) (fun i L W h1 h2 hc => hc) ?_
  simp only [tk',t0',dk',d0']
  repeat (go_big_quiet_step (fail))
  refine wpQuiet_nil ?_
  refine rQuiet_none (by go_simp) (fun L w hD hi hc => hc) ?_
  simp only [Act.put,ta',sz',ss']
  refine rQuiet_none (by go_simp) (fun L w hD hi hc => hc) ?_
  simp only [Act.put,ta',sz',ss']
  refine rQuiet_head 7 (by decide) (by kernel_rfl) (fun i L W h1 h2 hc => hc) ?_
  simp only [tk',t0',dk',d0']
  repeat (go_big_quiet_step (fail))
  refine wpQuiet_nil ?_
  refine rQuiet_none (by go_simp) (fun L w hD hi hc => hc) ?_
  simp only [Act.put,ta',sz',ss']
  refine rQuiet_none (by go_simp) (fun L w hD hi hc => hc) ?_
  simp only [Act.put,ta',sz',ss']
  refine rQuiet_head 3 (by decide) (by kernel_rfl) (fun i L W h1 h2 hc => hc) ?_
  simp only [tk',t0',dk',d0']
  repeat (go_big_quiet_step (fail))
  refine wpQuiet_nil ?_
  refine rQuiet_none (by go_simp) (fun L w hD hi hc => hc) ?_
  simp only [Act.put,ta',sz',ss']
  refine rQuiet_none (by go_simp) (fun L w hD hi hc => hc) ?_
  simp only [Act.put,ta',sz',ss']
  refine rQuiet_none (by go_simp) (fun L w hD hi hc => hc) ?_
  simp only [Act.put,ta',sz',ss']
  refine rQuiet_none (by go_simp) (fun L w hD hi hc => hc) ?_
  simp only [Act.put,ta',sz',ss']
  refine rQuiet_head 2 (by decide) (by kernel_rfl) (fun i L W h1 h2 hc => hc) ?_
  simp only [tk',t0',dk',d0']
  repeat (go_big_quiet_step (fail))
  refine wpQuiet_nil ?_
  intro w9 hw9
  have T4 := hq' hw9
  go_wp2
  go_meet
  case rel => exact ⟨rfl,by rw [show w9 = w1.drew from T4.out]; exact (Below.refl _ _).drew⟩
 case rest =>
  obtain ⟨rfl,hwz⟩ := hcut
  have BZ := hq' (BW.out _ hwz)
  clear hwz CA
  go_wp2
  go_ret
  exact ⟨rfl,BZ.out⟩
end Go.Proofs.YtbljbdjmgogknaaGreatDoor
