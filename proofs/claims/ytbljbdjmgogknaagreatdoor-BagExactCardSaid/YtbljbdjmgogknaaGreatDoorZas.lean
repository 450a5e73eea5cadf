/-
  Wga5 / Wga6 / Wga7 / Wgb / Wl: texts of one proof, one behind the other.
  Conditions: none of its own.
-/
import Derived.Test.YtbljbdjmgogknaaGreatDoorZar
set_option linter.unusedVariables false
set_option linter.unusedSimpArgs false
set_option maxHeartbeats 12800000
set_option maxRecDepth 20000
namespace Go.Proofs.YtbljbdjmgogknaaGreatDoor
open Go.RowKit
structure gB (w1 : World) (e l : Int) (t : TypeId) (L : Array Bool) (W : World) : Prop where
 b : Below w1.heap.size w1 W
 s : L.getD 27 false = false → L.getD 28 false = false → W.heap.size = w1.heap.size
 c1 : L.getD 27 false = true → Cl W w1.heap.size [.int .i64 e,.int .i64 l] t
 z : L.size = 47
theorem gB.set {w1 W : World} {e l : Int} {t : TypeId} {L : Array Bool} (c : gB w1 e l t L W) {i : Nat} (h1 : i ≠ 27) (h2 : i ≠ 28) : gB w1 e l t (L.setIfInBounds i true) W := by
 refine ⟨c.b,?_,?_,by rw [Array.size_setIfInBounds]; exact c.z⟩
 ·rw [getD_set_ne false h1,getD_set_ne false h2]; exact c.s
 ·rw [getD_set_ne false h1]; exact c.c1
theorem gB.build {w1 W : World} {e l : Int} {t : TypeId} {L : Array Bool} (c : gB w1 e l t L W) (hs : W.heap.size = w1.heap.size) (h28 : L.getD 28 false = false) :
  gB w1 e l t (L.setIfInBounds 27 true) (W.alloc (.cells #[.int .i64 e,.int .i64 l] t)) := by
 refine ⟨c.b.alloc (by omega) _,fun h => ?_,fun _ => ?_,by rw [Array.size_setIfInBounds]; exact c.z⟩
 ·rw [set_same (by rw [c.z]; decide)] at h; cases h
 ·rw [← hs]; exact Cl.new W _ _
theorem gB.are {w1 W W' : World} {e l : Int} {t : TypeId} {L : Array Bool} (c : gB w1 e l t L W) (hb : Below W.heap.size W W') (h27 : L.getD 27 false = true) : gB w1 e l t (L.setIfInBounds 28 true) W' := by
 refine ⟨bt c.b hb,fun _ h => ?_,fun _ => Cl.below (c.c1 h27) hb,by rw [Array.size_setIfInBounds]; exact c.z⟩
 rw [set_same (by rw [c.z]; decide)] at h; cases h
theorem gB.cell {w1 : World} {e l : Int} {t tm : TypeId} {pa : Nat} {cs : List Value} (CA : Cl w1 pa cs tm) (x : AnyOf (gB w1 e l t)) {k : Nat} {u : Value} (hu : cs[k]? = some u) : x.1.cell? ⟨pa,k,none⟩ = some u := by
 obtain ⟨W,L,hL⟩ := x
 exact ((Cl.below CA hL.b).cell k).trans hu
theorem good_f5 (m : Wi.Msg) (v : MsgV) (w : World) (h : MsgAt w m v) (ok : MsgOk m) (h1 : Wi.inB m.kind 1 9 = true) (h2 : Wi.unitB m.frm = true) (h3 : Wi.unitB m.«to» = true) (h4 : Wi.inB m.part 0 3 = true) (h5 : Wi.areB 0 1073741824 [m.ep,m.life] = false) :
  Calls Tryz.prog 44 #[msgV m v] w fun e w' => e = .returned (.bool false) ∧ Below w.heap.size w w' := by
 have HM := hq' h
 have HO := hq' ok
 obtain ⟨s0,c0,s1,c1,s2,c2,s3,c3,s4,c4,s5,c5,s6,c6,rfl⟩ := h.slices
 obtain ⟨x_kind,x_frm,x_to,x_part,x_ep,x_off,x_high,x_life,x_pep,x_chain,x_learner,x_lives,x_batch,x_table,x_req,x_resp⟩ := m
 dsimp only at *
 clear h ok
 have HK : Hid (1 ≤ x_kind ∧ x_kind ≤ 9) := by simpa [Hid,Wi.inB] using h1
 have G1 := hq' h1
 have G2 := hq' h2
 have G3 := hq' h3
 have G4 := hq' h4
 have G5 := hq' h5
 clear h1 h2 h3 h4 h5
 have HI38 := hq' (show (Tryz.prog.info? 44).map (·.size) = some ((.int .i64 x_kind::.int .i64 x_frm::.int .i64 x_to::xt x_part x_ep x_off x_high x_life x_pep x_chain x_learner x_lives x_batch x_table x_req x_resp s0 c0 s1 c1 s2 c2 s3 c3 s4 c4 s5 c5 s6 c6) : List Value).length by kernel_rfl)
 unfold msgV msgC
 dsimp only
 go_enter Tryz.func44,Tryz.ntmps44
 obtain ⟨w1,hw1,CA,B1⟩ := oneBox (w := w) (.int .i64 x_kind::.int .i64 x_frm::.int .i64 x_to::xt x_part x_ep x_off x_high x_life x_pep x_chain x_learner x_lives x_batch x_table x_req x_resp s0 c0 s1 c1 s2 c2 s3 c3 s4 c4 s5 c5 s6 c6) 44
 have HW1 := hq' hw1
 clear hw1
 go_upto_region 1 with (fail)
 first | rw [HW1.out] | skip
 clear HW1
 have M1 := hq' (HM.out.kept B1.out)
 have BW : Hid (∀ W,Below w1.heap.size w1 W → Below w.heap.size w W) := fun W h => bt B1.out h
 generalize w.heap.size = pa at CA ⊢
 clear HM
 go_cut [51] (fun t51 wz => t51 = .bool true ∧ Below w1.heap.size w1 wz)
 case first =>
  have m0 := fun x : AnyOf (gB w1 x_ep x_life 3) => gB.cell CA.out x (k := 0) rfl
  have m1 := fun x : AnyOf (gB w1 x_ep x_life 3) => gB.cell CA.out x (k := 1) rfl
  have m2 := fun x : AnyOf (gB w1 x_ep x_life 3) => gB.cell CA.out x (k := 2) rfl
  have m3 := fun x : AnyOf (gB w1 x_ep x_life 3) => gB.cell CA.out x (k := 3) rfl
  have m4 := fun x : AnyOf (gB w1 x_ep x_life 3) => gB.cell CA.out x (k := 4) rfl
  have m5 := fun x : AnyOf (gB w1 x_ep x_life 3) => gB.cell CA.out x (k := 5) rfl
  have m6 := fun x : AnyOf (gB w1 x_ep x_life 3) => gB.cell CA.out x (k := 6) rfl
  have m7 := fun x : AnyOf (gB w1 x_ep x_life 3) => gB.cell CA.out x (k := 7) rfl
  have hC0 : (gB w1 x_ep x_life 3) (Array.replicate 47 false) w1.drew := ⟨(Below.refl _ _).drew,fun _ _ => rfl,fun h => (by simp at h),by simp⟩
  have hne : Nonempty (AnyOf (gB w1 x_ep x_life 3)) := ⟨⟨_,Array.replicate 47 false,hC0⟩⟩
  go_wp2
  refine wp_region_ranks (gB w1 x_ep x_life 3) _ (by kernel_rfl) (by kernel_rfl) rfl hC0 ?_
  refine rQuiet_head 2 (by decide) (by kernel_rfl) (fun i L W h1 h2 hc => hc.set (by omega) (by omega)) ?_
  simp only [tk',t0',dk',d0']
  repeat (go_big_quiet_step (fail))
  refine wpQuiet_nil ?_
  refine rQuiet_call (f := 68) (args := #[.int .i64 x_kind,.int .i64 1,.int .i64 9]) (.bool true) rfl (fun w => by go_simp) (fun L w hD hi hc => (wwithin_any x_kind 1 9 w).mono fun e w' ⟨he,hw⟩ => ⟨by rw [he,G1.out],by rw [hw]; exact hc.set (by omega) (by omega)⟩) ?_
  simp only [Act.put,ta',sz',ss']
  refine rQuiet_head 4 (by decide) (by kernel_rfl) (fun i L W h1 h2 hc => hc.set (by omega) (by omega)) ?_
  simp only [tk',t0',dk',d0']
  repeat (go_big_quiet_step (fail))
  refine wpQuiet_nil ?_
  refine rQuiet_call (f := 69) (args := #[.int .i64 x_frm]) (.bool true) rfl (fun w => by go_simp) (fun L w hD hi hc => (isUnit_any x_frm w).mono fun e w' ⟨he,hw⟩ => ⟨by rw [he,G2.out],by rw [hw]; exact hc.set (by omega) (by omega)⟩) ?_
  simp only [Act.put,ta',sz',ss']
  refine rQuiet_head 5 (by decide) (by kernel_rfl) (fun i L W h1 h2 hc => hc.set (by omega) (by omega)) ?_
  simp only [tk',t0',dk',d0']
  repeat (go_big_quiet_step (fail))
  refine wpQuiet_nil ?_
  refine rQuiet_call (f := 69) (args := #[.int .i64 x_to]) (.bool true) rfl (fun w => by go_simp) (fun L w hD hi hc => (isUnit_any x_to w).mono fun e w' ⟨he,hw⟩ => ⟨by rw [he,G3.out],by rw [hw]; exact hc.set (by omega) (by omega)⟩) ?_
  simp only [Act.put,ta',sz',ss']
  refine rQuiet_head 5 (by decide) (by kernel_rfl) (fun i L W h1 h2 hc => hc.set (by omega) (by omega)) ?_
  simp only [tk',t0',dk',d0']
  repeat (go_big_quiet_step (fail))
  refine wpQuiet_nil ?_
  refine rQuiet_call (f := 68) (args := #[.int .i64 x_part,.int .i64 0,.int .i64 3]) (.bool true) rfl (fun w => by go_simp) (fun L w hD hi hc => (wwithin_any x_part 0 3 w).mono fun e w' ⟨he,hw⟩ => ⟨by rw [he,G4.out],by rw [hw]; exact hc.set (by omega) (by omega)⟩) ?_
  simp only [Act.put,ta',sz',ss']
  refine rQuiet_head 7 (by decide) (by kernel_rfl) (fun i L W h1 h2 hc => hc.set (by omega) (by omega)) ?_
  simp only [tk',t0',dk',d0']
  repeat (go_big_quiet_step (fail))
  refine wpQuiet_nil ?_
  refine rQuiet_value (.slice (some ⟨w1.heap.size,0,none⟩) 2 2) (fun W => W.alloc (.cells #[.int .i64 x_ep,.int .i64 x_life] 3)) rfl (fun L w hD hi hc => ?_) ?_
  ·have h27 := ready_not hi
   have h28 : L.getD 28 false = false := no_of (fun h => hD.wait (j := 28) (i := 27) (by kernel_rfl) h) h27
   have hs := hc.s h27 h28
   refine ⟨by rw [← hs]; go_simp,?_⟩
   exact hc.build hs h28
  simp only [Act.put,ta',sz',ss']
  refine rQuiet_call (f := 70) (args := #[.int .i64 0,.int .i64 1073741824,.slice (some ⟨w1.heap.size,0,none⟩) 2 2]) (.bool false) rfl (fun w => by go_simp) (fun L w hD hi hc => ?_) ?_
  ·have h27 := ready_wait hi (i := 27) (by kernel_rfl)
   exact (are_sz [x_ep,x_life] (by simp [maxLen]) _ 0 1073741824 w (ints2_cl (hc.c1 h27))).mono fun e w' ⟨he,hb,hz⟩ => ⟨by rw [he,G5.out],hc.are hb h27⟩
  simp only [Act.put,ta',sz',ss']
  refine rQuiet_head 7 (by decide) (by kernel_rfl) (fun i L W h1 h2 hc => hc.set (by omega) (by omega)) ?_
  simp only [tk',t0',dk',d0']
  repeat (go_big_quiet_step (fail))
  refine wpQuiet_nil ?_
  refine rQuiet_none (by go_simp) (fun L w hD hi hc => hc.set (by omega) (by omega)) ?_
  simp only [Act.put,ta',sz',ss']
  refine rQuiet_none (by go_simp) (fun L w hD hi hc => hc.set (by omega) (by omega)) ?_
  simp only [Act.put,ta',sz',ss']
  refine rQuiet_head 3 (by decide) (by kernel_rfl) (fun i L W h1 h2 hc => hc.set (by omega) (by omega)) ?_
  simp only [tk',t0',dk',d0']
  repeat (go_big_quiet_step (fail))
  refine wpQuiet_nil ?_
  refine rQuiet_none (by go_simp) (fun L w hD hi hc => hc.set (by omega) (by omega)) ?_
  simp only [Act.put,ta',sz',ss']
  refine rQuiet_none (by go_simp) (fun L w hD hi hc => hc.set (by omega) (by omega)) ?_
  simp only [Act.put,ta',sz',ss']
  refine rQuiet_none (by go_simp) (fun L w hD hi hc => hc.set (by omega) (by omega)) ?_
  simp only [Act.put,ta',sz',ss']
  refine rQuiet_none (by go_simp) (fun L w hD hi hc => hc.set (by omega) (by omega)) ?_
  simp only [Act.put,ta',sz',ss']
  refine rQuiet_head 2 (by decide) (by kernel_rfl) (fun i L W h1 h2 hc => hc.set (by omega) (by omega)) ?_
  simp only [tk',t0',dk',d0']
  repeat (go_big_quiet_step (fail))
  refine wpQuiet_nil ?_
  intro w9 hw9
  have T4 := hq' hw9.b
  go_wp2
  go_meet
  case rel => exact ⟨rfl,T4.out⟩
 case rest =>
  obtain ⟨rfl,hwz⟩ := hcut
  have BZ := hq' (BW.out _ hwz)
  clear hwz CA
  go_wp2
  go_ret
  exact ⟨rfl,BZ.out⟩
theorem good_f6 (m : Wi.Msg) (v : MsgV) (w : World) (h : MsgAt w m v) (ok : MsgOk m) (h1 : Wi.inB m.kind 1 9 = true) (h2 : Wi.unitB m.frm = true) (h3 : Wi.unitB m.«to» = true) (h4 : Wi.inB m.part 0 3 = true) (h5 : Wi.areB 0 1073741824 [m.ep,m.life] = true) (h6 : Wi.areB (-1) 1099511627776 [m.off,m.high] = false) :
  Calls Tryz.prog 44 #[msgV m v] w fun e w' => e = .returned (.bool false) ∧ Below w.heap.size w w' := by
 have HM := hq' h
 have HO := hq' ok
 obtain ⟨s0,c0,s1,c1,s2,c2,s3,c3,s4,c4,s5,c5,s6,c6,rfl⟩ := h.slices
 obtain ⟨x_kind,x_frm,x_to,x_part,x_ep,x_off,x_high,x_life,x_pep,x_chain,x_learner,x_lives,x_batch,x_table,x_req,x_resp⟩ := m
 dsimp only at *
 clear h ok
 have HK : Hid (1 ≤ x_kind ∧ x_kind ≤ 9) := by simpa [Hid,Wi.inB] using h1
 have G1 := hq' h1
 have G2 := hq' h2
 have G3 := hq' h3
 have G4 := hq' h4
 have G5 := hq' h5
 have G6 := hq' h6
 clear h1 h2 h3 h4 h5 h6
 have HI38 := hq' (show (Tryz.prog.info? 44).map (·.size) = some ((.int .i64 x_kind::.int .i64 x_frm::.int .i64 x_to::xt x_part x_ep x_off x_high x_life x_pep x_chain x_learner x_lives x_batch x_table x_req x_resp s0 c0 s1 c1 s2 c2 s3 c3 s4 c4 s5 c5 s6 c6) : List Value).length by kernel_rfl)
 unfold msgV msgC
 dsimp only
 go_enter Tryz.func44,Tryz.ntmps44
 obtain ⟨w1,hw1,CA,B1⟩ := oneBox (w := w) (.int .i64 x_kind::.int .i64 x_frm::.int .i64 x_to::xt x_part x_ep x_off x_high x_life x_pep x_chain x_learner x_lives x_batch x_table x_req x_resp s0 c0 s1 c1 s2 c2 s3 c3 s4 c4 s5 c5 s6 c6) 44
 have HW1 := hq' hw1
 clear hw1
 go_upto_region 1 with (fail)
 first | rw [HW1.out] | skip
 clear HW1
 have M1 := hq' (HM.out.kept B1.out)
 have BW : Hid (∀ W,Below w1.heap.size w1 W → Below w.heap.size w W) := fun W h => bt B1.out h
 generalize w.heap.size = pa at CA ⊢
 clear HM
 go_cut [51] (fun t51 wz => t51 = .bool true ∧ Below w1.heap.size w1 wz)
 case first =>
  have m0 := fun x : AnyOf (gC w1 x_ep x_life x_off x_high 3) => gC.cell CA.out x (k := 0) rfl
  have m1 := fun x : AnyOf (gC w1 x_ep x_life x_off x_high 3) => gC.cell CA.out x (k := 1) rfl
  have m2 := fun x : AnyOf (gC w1 x_ep x_life x_off x_high 3) => gC.cell CA.out x (k := 2) rfl
  have m3 := fun x : AnyOf (gC w1 x_ep x_life x_off x_high 3) => gC.cell CA.out x (k := 3) rfl
  have m4 := fun x : AnyOf (gC w1 x_ep x_life x_off x_high 3) => gC.cell CA.out x (k := 4) rfl
  have m5 := fun x : AnyOf (gC w1 x_ep x_life x_off x_high 3) => gC.cell CA.out x (k := 5) rfl
  have m6 := fun x : AnyOf (gC w1 x_ep x_life x_off x_high 3) => gC.cell CA.out x (k := 6) rfl
  have m7 := fun x : AnyOf (gC w1 x_ep x_life x_off x_high 3) => gC.cell CA.out x (k := 7) rfl
  have hC0 : (gC w1 x_ep x_life x_off x_high 3) (Array.replicate 47 false) w1.drew := ⟨(Below.refl _ _).drew,fun _ => rfl,fun h => (by simp at h),fun h => (by simp at h),by simp⟩
  have hne : Nonempty (AnyOf (gC w1 x_ep x_life x_off x_high 3)) := ⟨⟨_,Array.replicate 47 false,hC0⟩⟩
  go_wp2
  refine wp_region_ranks (gC w1 x_ep x_life x_off x_high 3) _ (by kernel_rfl) (by kernel_rfl) rfl hC0 ?_
  refine rQuiet_head 2 (by decide) (by kernel_rfl) (fun i L W h1 h2 hc => hc.set (by omega) (by omega) (by omega) (by omega) (by omega)) ?_
  simp only [tk',t0',dk',d0']
  repeat (go_big_quiet_step (fail))
  refine wpQuiet_nil ?_
  refine rQuiet_call (f := 68) (args := #[.int .i64 x_kind,.int .i64 1,.int .i64 9]) (.bool true) rfl (fun w => by go_simp) (fun L w hD hi hc => (wwithin_any x_kind 1 9 w).mono fun e w' ⟨he,hw⟩ => ⟨by rw [he,G1.out],by rw [hw]; exact hc.set (by omega) (by omega) (by omega) (by omega) (by omega)⟩) ?_
  simp only [Act.put,ta',sz',ss']
  refine rQuiet_head 4 (by decide) (by kernel_rfl) (fun i L W h1 h2 hc => hc.set (by omega) (by omega) (by omega) (by omega) (by omega)) ?_
  simp only [tk',t0',dk',d0']
  repeat (go_big_quiet_step (fail))
  refine wpQuiet_nil ?_
  refine rQuiet_call (f := 69) (args := #[.int .i64 x_frm]) (.bool true) rfl (fun w => by go_simp) (fun L w hD hi hc => (isUnit_any x_frm w).mono fun e w' ⟨he,hw⟩ => ⟨by rw [he,G2.out],by rw [hw]; exact hc.set (by omega) (by omega) (by omega) (by omega) (by omega)⟩) ?_
  simp only [Act.put,ta',sz',ss']
  refine rQuiet_head 5 (by decide) (by kernel_rfl) (fun i L W h1 h2 hc => hc.set (by omega) (by omega) (by omega) (by omega) (by omega)) ?_
  simp only [tk',t0',dk',d0']
  repeat (go_big_quiet_step (fail))
  refine wpQuiet_nil ?_
  refine rQuiet_call (f := 69) (args := #[.int .i64 x_to]) (.bool true) rfl (fun w => by go_simp) (fun L w hD hi hc => (isUnit_any x_to w).mono fun e w' ⟨he,hw⟩ => ⟨by rw [he,G3.out],by rw [hw]; exact hc.set (by omega) (by omega) (by omega) (by omega) (by omega)⟩) ?_
  simp only [Act.put,ta',sz',ss']
  refine rQuiet_head 5 (by decide) (by kernel_rfl) (fun i L W h1 h2 hc => hc.set (by omega) (by omega) (by omega) (by omega) (by omega)) ?_
  simp only [tk',t0',dk',d0']
  repeat (go_big_quiet_step (fail))
  refine wpQuiet_nil ?_
  refine rQuiet_call (f := 68) (args := #[.int .i64 x_part,.int .i64 0,.int .i64 3]) (.bool true) rfl (fun w => by go_simp) (fun L w hD hi hc => (wwithin_any x_part 0 3 w).mono fun e w' ⟨he,hw⟩ => ⟨by rw [he,G4.out],by rw [hw]; exact hc.set (by omega) (by omega) (by omega) (by omega) (by omega)⟩) ?_
  simp only [Act.put,ta',sz',ss']
  refine rQuiet_head 7 (by decide) (by kernel_rfl) (fun i L W h1 h2 hc => hc.set (by omega) (by omega) (by omega) (by omega) (by omega)) ?_
  simp only [tk',t0',dk',d0']
  repeat (go_big_quiet_step (fail))
  refine wpQuiet_nil ?_
  refine rQuiet_value (.slice (some ⟨w1.heap.size,0,none⟩) 2 2) (fun W => W.alloc (.cells #[.int .i64 x_ep,.int .i64 x_life] 3)) rfl (fun L w hD hi hc => ?_) ?_
  ·have h27 := ready_not hi
   have h28 : L.getD 28 false = false := no_of (fun h => hD.wait (j := 28) (i := 27) (by kernel_rfl) h) h27
   have h36 : L.getD 36 false = false := no_of (fun h => hD.wait (j := 29) (i := 28) (by kernel_rfl) (hD.wait (j := 30) (i := 29) (by kernel_rfl) (hD.wait (j := 31) (i := 30) (by kernel_rfl) (hD.wait (j := 36) (i := 31) (by kernel_rfl) h)))) h28
   have h37 : L.getD 37 false = false := no_of (fun h => hD.wait (j := 37) (i := 36) (by kernel_rfl) h) h36
   have h43 : L.getD 43 false = false := no_of (fun h => hD.wait (j := 38) (i := 37) (by kernel_rfl) (hD.wait (j := 39) (i := 38) (by kernel_rfl) (hD.wait (j := 40) (i := 39) (by kernel_rfl) (hD.wait (j := 43) (i := 40) (by kernel_rfl) h)))) h37
   have hs := hc.s h43
   rw [gcnt,h27,h28,h36,h37] at hs
   have hs : w.heap.size = w1.heap.size := by simpa using hs
   refine ⟨by rw [← hs]; go_simp,?_⟩
   exact hc.build1 hs h28 h36 h37
  simp only [Act.put,ta',sz',ss']
  refine rQuiet_call (f := 70) (args := #[.int .i64 0,.int .i64 1073741824,.slice (some ⟨w1.heap.size,0,none⟩) 2 2]) (.bool true) rfl (fun w => by go_simp) (fun L w hD hi hc => ?_) ?_
  ·have h28 := ready_not hi
   have h27 := ready_wait hi (i := 27) (by kernel_rfl)
   have h36 : L.getD 36 false = false := no_of (fun h => hD.wait (j := 29) (i := 28) (by kernel_rfl) (hD.wait (j := 30) (i := 29) (by kernel_rfl) (hD.wait (j := 31) (i := 30) (by kernel_rfl) (hD.wait (j := 36) (i := 31) (by kernel_rfl) h)))) h28
   have h37 : L.getD 37 false = false := no_of (fun h => hD.wait (j := 37) (i := 36) (by kernel_rfl) h) h36
   have h43 : L.getD 43 false = false := no_of (fun h => hD.wait (j := 38) (i := 37) (by kernel_rfl) (hD.wait (j := 39) (i := 38) (by kernel_rfl) (hD.wait (j := 40) (i := 39) (by kernel_rfl) (hD.wait (j := 43) (i := 40) (by kernel_rfl) h)))) h37
   exact (are_sz [x_ep,x_life] (by simp [maxLen]) _ 0 1073741824 w (ints2_cl (hc.c1 h27))).mono fun e w' ⟨he,hb,hz⟩ => ⟨by rw [he,G5.out],hc.are1 hb hz h27 h28 h36 h37 h43⟩
  simp only [Act.put,ta',sz',ss']
  refine rQuiet_head 7 (by decide) (by kernel_rfl) (fun i L W h1 h2 hc => hc.set (by omega) (by omega) (by omega) (by omega) (by omega)) ?_
  simp only [tk',t0',dk',d0']
  repeat (go_big_quiet_step (fail))
  refine wpQuiet_nil ?_
  refine rQuiet_value (.slice (some ⟨w1.heap.size + 3,0,none⟩) 2 2) (fun W => W.alloc (.cells #[.int .i64 x_off,.int .i64 x_high] 3)) rfl (fun L w hD hi hc => ?_) ?_
  ·have h36 := ready_not hi
   have h28 : L.getD 28 false = true := hD.wait (j := 29) (i := 28) (by kernel_rfl) (hD.wait (j := 30) (i := 29) (by kernel_rfl) (hD.wait (j := 31) (i := 30) (by kernel_rfl) (ready_wait hi (i := 31) (by kernel_rfl))))
   have h27 : L.getD 27 false = true := hD.wait (j := 28) (i := 27) (by kernel_rfl) h28
   have h37 : L.getD 37 false = false := no_of (fun h => hD.wait (j := 37) (i := 36) (by kernel_rfl) h) h36
   have h43 : L.getD 43 false = false := no_of (fun h => hD.wait (j := 38) (i := 37) (by kernel_rfl) (hD.wait (j := 39) (i := 38) (by kernel_rfl) (hD.wait (j := 40) (i := 39) (by kernel_rfl) (hD.wait (j := 43) (i := 40) (by kernel_rfl) h)))) h37
   have hs := hc.s h43
   rw [gcnt,h27,h28,h36,h37] at hs
   have hs : w.heap.size = w1.heap.size + 3 := by simpa using hs
   refine ⟨by rw [← hs]; go_simp,?_⟩
   exact hc.build2 hs h27 h28 h37
  simp only [Act.put,ta',sz',ss']
  refine rQuiet_call (f := 70) (args := #[.int .i64 (-1),.int .i64 1099511627776,.slice (some ⟨w1.heap.size + 3,0,none⟩) 2 2]) (.bool false) rfl (fun w => by go_simp) (fun L w hD hi hc => ?_) ?_
  ·have h37 := ready_not hi
   have h36 := ready_wait hi (i := 36) (by kernel_rfl)
   have h28 : L.getD 28 false = true := hD.wait (j := 29) (i := 28) (by kernel_rfl) (hD.wait (j := 30) (i := 29) (by kernel_rfl) (hD.wait (j := 31) (i := 30) (by kernel_rfl) (hD.wait (j := 36) (i := 31) (by kernel_rfl) h36)))
   have h27 : L.getD 27 false = true := hD.wait (j := 28) (i := 27) (by kernel_rfl) h28
   have h43 : L.getD 43 false = false := no_of (fun h => hD.wait (j := 38) (i := 37) (by kernel_rfl) (hD.wait (j := 39) (i := 38) (by kernel_rfl) (hD.wait (j := 40) (i := 39) (by kernel_rfl) (hD.wait (j := 43) (i := 40) (by kernel_rfl) h)))) h37
   exact (are_sz [x_off,x_high] (by simp [maxLen]) _ (-1) 1099511627776 w (ints2_cl (hc.c2 h36))).mono fun e w' ⟨he,hb,hz⟩ => ⟨by rw [he,G6.out],hc.are2 hb hz h27 h28 h36 h37 h43⟩
  simp only [Act.put,ta',sz',ss']
  refine rQuiet_head 3 (by decide) (by kernel_rfl) (fun i L W h1 h2 hc => hc.set (by omega) (by omega) (by omega) (by omega) (by omega)) ?_
  simp only [tk',t0',dk',d0']
  repeat (go_big_quiet_step (fail))
  refine wpQuiet_nil ?_
  refine rQuiet_none (by go_simp) (fun L w hD hi hc => hc.set (by omega) (by omega) (by omega) (by omega) (by omega)) ?_
  simp only [Act.put,ta',sz',ss']
  refine rQuiet_none (by go_simp) (fun L w hD hi hc => hc.set (by omega) (by omega) (by omega) (by omega) (by omega)) ?_
  simp only [Act.put,ta',sz',ss']
  refine rQuiet_none (by go_simp) (fun L w hD hi hc => hc.only (Below.refl _ _)) ?_
  simp only [Act.put,ta',sz',ss']
  refine rQuiet_none (by go_simp) (fun L w hD hi hc => hc.set (by omega) (by omega) (by omega) (by omega) (by omega)) ?_
  simp only [Act.put,ta',sz',ss']
  refine rQuiet_head 2 (by decide) (by kernel_rfl) (fun i L W h1 h2 hc => hc.set (by omega) (by omega) (by omega) (by omega) (by omega)) ?_
  simp only [tk',t0',dk',d0']
  repeat (go_big_quiet_step (fail))
  refine wpQuiet_nil ?_
  intro w9 hw9
  have T4 := hq' hw9.b
  go_wp2
  go_meet
  case rel => exact ⟨rfl,T4.out⟩
 case rest =>
  obtain ⟨rfl,hwz⟩ := hcut
  have BZ := hq' (BW.out _ hwz)
  clear hwz CA
  go_wp2
  go_ret
  exact ⟨rfl,BZ.out⟩
theorem good_f7 (m : Wi.Msg) (v : MsgV) (w : World) (h : MsgAt w m v) (ok : MsgOk m) (h1 : Wi.inB m.kind 1 9 = true) (h2 : Wi.unitB m.frm = true) (h3 : Wi.unitB m.«to» = true) (h4 : Wi.inB m.part 0 3 = true) (h5 : Wi.areB 0 1073741824 [m.ep,m.life] = true) (h6 : Wi.areB (-1) 1099511627776 [m.off,m.high] = true) (h7 : Wi.same m (Wi.only m) = false) :
  Calls Tryz.prog 44 #[msgV m v] w fun e w' => e = .returned (.bool false) ∧ Below w.heap.size w w' := by
 have HM := hq' h
 have HO := hq' ok
 obtain ⟨s0,c0,s1,c1,s2,c2,s3,c3,s4,c4,s5,c5,s6,c6,rfl⟩ := h.slices
 obtain ⟨x_kind,x_frm,x_to,x_part,x_ep,x_off,x_high,x_life,x_pep,x_chain,x_learner,x_lives,x_batch,x_table,x_req,x_resp⟩ := m
 dsimp only at *
 clear h ok
 have HK : Hid (1 ≤ x_kind ∧ x_kind ≤ 9) := by simpa [Hid,Wi.inB] using h1
 have G1 := hq' h1
 have G2 := hq' h2
 have G3 := hq' h3
 have G4 := hq' h4
 have G5 := hq' h5
 have G6 := hq' h6
 have G7 := hq' h7
 clear h1 h2 h3 h4 h5 h6 h7
 have HI38 := hq' (show (Tryz.prog.info? 44).map (·.size) = some ((.int .i64 x_kind::.int .i64 x_frm::.int .i64 x_to::xt x_part x_ep x_off x_high x_life x_pep x_chain x_learner x_lives x_batch x_table x_req x_resp s0 c0 s1 c1 s2 c2 s3 c3 s4 c4 s5 c5 s6 c6) : List Value).length by kernel_rfl)
 unfold msgV msgC
 dsimp only
 go_enter Tryz.func44,Tryz.ntmps44
 obtain ⟨w1,hw1,CA,B1⟩ := oneBox (w := w) (.int .i64 x_kind::.int .i64 x_frm::.int .i64 x_to::xt x_part x_ep x_off x_high x_life x_pep x_chain x_learner x_lives x_batch x_table x_req x_resp s0 c0 s1 c1 s2 c2 s3 c3 s4 c4 s5 c5 s6 c6) 44
 have HW1 := hq' hw1
 clear hw1
 go_upto_region 1 with (fail)
 first | rw [HW1.out] | skip
 clear HW1
 have M1 := hq' (HM.out.kept B1.out)
 have BW : Hid (∀ W,Below w1.heap.size w1 W → Below w.heap.size w W) := fun W h => bt B1.out h
 generalize w.heap.size = pa at CA ⊢
 clear HM
 go_cut [51] (fun t51 wz => t51 = .bool true ∧ Below w1.heap.size w1 wz)
 case first =>
  have m0 := fun x : AnyOf (gC w1 x_ep x_life x_off x_high 3) => gC.cell CA.out x (k := 0) rfl
  have m1 := fun x : AnyOf (gC w1 x_ep x_life x_off x_high 3) => gC.cell CA.out x (k := 1) rfl
  have m2 := fun x : AnyOf (gC w1 x_ep x_life x_off x_high 3) => gC.cell CA.out x (k := 2) rfl
  have m3 := fun x : AnyOf (gC w1 x_ep x_life x_off x_high 3) => gC.cell CA.out x (k := 3) rfl
  have m4 := fun x : AnyOf (gC w1 x_ep x_life x_off x_high 3) => gC.cell CA.out x (k := 4) rfl
  have m5 := fun x : AnyOf (gC w1 x_ep x_life x_off x_high 3) => gC.cell CA.out x (k := 5) rfl
  have m6 := fun x : AnyOf (gC w1 x_ep x_life x_off x_high 3) => gC.cell CA.out x (k := 6) rfl
  have m7 := fun x : AnyOf (gC w1 x_ep x_life x_off x_high 3) => gC.cell CA.out x (k := 7) rfl
  have hC0 : (gC w1 x_ep x_life x_off x_high 3) (Array.replicate 47 false) w1.drew := ⟨(Below.refl _ _).drew,fun _ => rfl,fun h => (by simp at h),fun h => (by simp at h),by simp⟩
  have hne : Nonempty (AnyOf (gC w1 x_ep x_life x_off x_high 3)) := ⟨⟨_,Array.replicate 47 false,hC0⟩⟩
  go_wp2
  refine wp_region_ranks (gC w1 x_ep x_life x_off x_high 3) _ (by kernel_rfl) (by kernel_rfl) rfl hC0 ?_
  refine rQuiet_head 2 (by decide) (by kernel_rfl) (fun i L W h1 h2 hc => hc.set (by omega) (by omega) (by omega) (by omega) (by omega)) ?_
  simp only [tk',t0',dk',d0']
  repeat (go_big_quiet_step (fail))
  refine wpQuiet_nil ?_
  refine rQuiet_call (f := 68) (args := #[.int .i64 x_kind,.int .i64 1,.int .i64 9]) (.bool true) rfl (fun w => by go_simp) (fun L w hD hi hc => (wwithin_any x_kind 1 9 w).mono fun e w' ⟨he,hw⟩ => ⟨by rw [he,G1.out],by rw [hw]; exact hc.set (by omega) (by omega) (by omega) (by omega) (by omega)⟩) ?_
  simp only [Act.put,ta',sz',ss']
  refine rQuiet_head 4 (by decide) (by kernel_rfl) (fun i L W h1 h2 hc => hc.set (by omega) (by omega) (by omega) (by omega) (by omega)) ?_
  simp only [tk',t0',dk',d0']
  repeat (go_big_quiet_step (fail))
  refine wpQuiet_nil ?_
  refine rQuiet_call (f := 69) (args := #[.int .i64 x_frm]) (.bool true) rfl (fun w => by go_simp) (fun L w hD hi hc => (isUnit_any x_frm w).mono fun e w' ⟨he,hw⟩ => ⟨by rw [he,G2.out],by rw [hw]; exact hc.set (by omega) (by omega) (by omega) (by omega) (by omega)⟩) ?_
  simp only [Act.put,ta',sz',ss']
  refine rQuiet_head 5 (by decide) (by kernel_rfl) (fun i L W h1 h2 hc => hc.set (by omega) (by omega) (by omega) (by omega) (by omega)) ?_
  simp only [tk',t0',dk',d0']
  repeat (go_big_quiet_step (fail))
  refine wpQuiet_nil ?_
  refine rQuiet_call (f := 69) (args := #[.int .i64 x_to]) (.bool true) rfl (fun w => by go_simp) (fun L w hD hi hc => (isUnit_any x_to w).mono fun e w' ⟨he,hw⟩ => ⟨by rw [he,G3.out],by rw [hw]; exact hc.set (by omega) (by omega) (by omega) (by omega) (by omega)⟩) ?_
  simp only [Act.put,ta',sz',ss']
  refine rQuiet_head 5 (by decide) (by kernel_rfl) (fun i L W h1 h2 hc => hc.set (by omega) (by omega) (by omega) (by omega) (by omega)) ?_
  simp only [tk',t0',dk',d0']
  repeat (go_big_quiet_step (fail))
  refine wpQuiet_nil ?_
  refine rQuiet_call (f := 68) (args := #[.int .i64 x_part,.int .i64 0,.int .i64 3]) (.bool true) rfl (fun w => by go_simp) (fun L w hD hi hc => (wwithin_any x_part 0 3 w).mono fun e w' ⟨he,hw⟩ => ⟨by rw [he,G4.out],by rw [hw]; exact hc.set (by omega) (by omega) (by omega) (by omega) (by omega)⟩) ?_
  simp only [Act.put,ta',sz',ss']
  refine rQuiet_head 7 (by decide) (by kernel_rfl) (fun i L W h1 h2 hc => hc.set (by omega) (by omega) (by omega) (by omega) (by omega)) ?_
  simp only [tk',t0',dk',d0']
  repeat (go_big_quiet_step (fail))
  refine wpQuiet_nil ?_
  refine rQuiet_value (.slice (some ⟨w1.heap.size,0,none⟩) 2 2) (fun W => W.alloc (.cells #[.int .i64 x_ep,.int .i64 x_life] 3)) rfl (fun L w hD hi hc => ?_) ?_
  ·have h27 := ready_not hi
   have h28 : L.getD 28 false = false := no_of (fun h => hD.wait (j := 28) (i := 27) (by kernel_rfl) h) h27
   have h36 : L.getD 36 false = false := no_of (fun h => hD.wait (j := 29) (i := 28) (by kernel_rfl) (hD.wait (j := 30) (i := 29) (by kernel_rfl) (hD.wait (j := 31) (i := 30) (by kernel_rfl) (hD.wait (j := 36) (i := 31) (by kernel_rfl) h)))) h28
   have h37 : L.getD 37 false = false := no_of (fun h => hD.wait (j := 37) (i := 36) (by kernel_rfl) h) h36
   have h43 : L.getD 43 false = false := no_of (fun h => hD.wait (j := 38) (i := 37) (by kernel_rfl) (hD.wait (j := 39) (i := 38) (by kernel_rfl) (hD.wait (j := 40) (i := 39) (by kernel_rfl) (hD.wait (j := 43) (i := 40) (by kernel_rfl) h)))) h37
   have hs := hc.s h43
   rw [gcnt,h27,h28,h36,h37] at hs
   have hs : w.heap.size = w1.heap.size := by simpa using hs
   refine ⟨by rw [← hs]; go_simp,?_⟩
   exact hc.build1 hs h28 h36 h37
  simp only [Act.put,ta',sz',ss']
  refine rQuiet_call (f := 70) (args := #[.int .i64 0,.int .i64 1073741824,.slice (some ⟨w1.heap.size,0,none⟩) 2 2]) (.bool true) rfl (fun w => by go_simp) (fun L w hD hi hc => ?_) ?_
  ·have h28 := ready_not hi
   have h27 := ready_wait hi (i := 27) (by kernel_rfl)
   have h36 : L.getD 36 false = false := no_of (fun h => hD.wait (j := 29) (i := 28) (by kernel_rfl) (hD.wait (j := 30) (i := 29) (by kernel_rfl) (hD.wait (j := 31) (i := 30) (by kernel_rfl) (hD.wait (j := 36) (i := 31) (by kernel_rfl) h)))) h28
   have h37 : L.getD 37 false = false := no_of (fun h => hD.wait (j := 37) (i := 36) (by kernel_rfl) h) h36
   have h43 : L.getD 43 false = false := no_of (fun h => hD.wait (j := 38) (i := 37) (by kernel_rfl) (hD.wait (j := 39) (i := 38) (by kernel_rfl) (hD.wait (j := 40) (i := 39) (by kernel_rfl) (hD.wait (j := 43) (i := 40) (by kernel_rfl) h)))) h37
   exact (are_sz [x_ep,x_life] (by simp [maxLen]) _ 0 1073741824 w (ints2_cl (hc.c1 h27))).mono fun e w' ⟨he,hb,hz⟩ => ⟨by rw [he,G5.out],hc.are1 hb hz h27 h28 h36 h37 h43⟩
  simp only [Act.put,ta',sz',ss']
  refine rQuiet_head 7 (by decide) (by kernel_rfl) (fun i L W h1 h2 hc => hc.set (by omega) (by omega) (by omega) (by omega) (by omega)) ?_
  simp only [tk',t0',dk',d0']
  repeat (go_big_quiet_step (fail))
  refine wpQuiet_nil ?_
  refine rQuiet_value (.slice (some ⟨w1.heap.size + 3,0,none⟩) 2 2) (fun W => W.alloc (.cells #[.int .i64 x_off,.int .i64 x_high] 3)) rfl (fun L w hD hi hc => ?_) ?_
  ·have h36 := ready_not hi
   have h28 : L.getD 28 false = true := hD.wait (j := 29) (i := 28) (by kernel_rfl) (hD.wait (j := 30) (i := 29) (by kernel_rfl) (hD.wait (j := 31) (i := 30) (by kernel_rfl) (ready_wait hi (i := 31) (by kernel_rfl))))
   have h27 : L.getD 27 false = true := hD.wait (j := 28) (i := 27) (by kernel_rfl) h28
   have h37 : L.getD 37 false = false := no_of (fun h => hD.wait (j := 37) (i := 36) (by kernel_rfl) h) h36
   have h43 : L.getD 43 false = false := no_of (fun h => hD.wait (j := 38) (i := 37) (by kernel_rfl) (hD.wait (j := 39) (i := 38) (by kernel_rfl) (hD.wait (j := 40) (i := 39) (by kernel_rfl) (hD.wait (j := 43) (i := 40) (by kernel_rfl) h)))) h37
   have hs := hc.s h43
   rw [gcnt,h27,h28,h36,h37] at hs
   have hs : w.heap.size = w1.heap.size + 3 := by simpa using hs
   refine ⟨by rw [← hs]; go_simp,?_⟩
   exact hc.build2 hs h27 h28 h37
  simp only [Act.put,ta',sz',ss']
  refine rQuiet_call (f := 70) (args := #[.int .i64 (-1),.int .i64 1099511627776,.slice (some ⟨w1.heap.size + 3,0,none⟩) 2 2]) (.bool true) rfl (fun w => by go_simp) (fun L w hD hi hc => ?_) ?_
  ·have h37 := ready_not hi
   have h36 := ready_wait hi (i := 36) (by kernel_rfl)
   have h28 : L.getD 28 false = true := hD.wait (j := 29) (i := 28) (by kernel_rfl) (hD.wait (j := 30) (i := 29) (by kernel_rfl) (hD.wait (j := 31) (i := 30) (by kernel_rfl) (hD.wait (j := 36) (i := 31) (by kernel_rfl) h36)))
   have h27 : L.getD 27 false = true := hD.wait (j := 28) (i := 27) (by kernel_rfl) h28
   have h43 : L.getD 43 false = false := no_of (fun h => hD.wait (j := 38) (i := 37) (by kernel_rfl) (hD.wait (j := 39) (i := 38) (by kernel_rfl) (hD.wait (j := 40) (i := 39) (by kernel_rfl) (hD.wait (j := 43) (i := 40) (by kernel_rfl) h)))) h37
   exact (are_sz [x_off,x_high] (by simp [maxLen]) _ (-1) 1099511627776 w (ints2_cl (hc.c2 h36))).mono fun e w' ⟨he,hb,hz⟩ => ⟨by rw [he,G6.out],hc.are2 hb hz h27 h28 h36 h37 h43⟩
  simp only [Act.put,ta',sz',ss']
  refine rQuiet_head 3 (by decide) (by kernel_rfl) (fun i L W h1 h2 hc => hc.set (by omega) (by omega) (by omega) (by omega) (by omega)) ?_
  simp only [tk',t0',dk',d0']
  repeat (go_big_quiet_step (fail))
  refine wpQuiet_nil ?_
  refine rQuiet_value (.agg (.int .i64 x_kind::.int .i64 x_frm::.int .i64 x_to::xt x_part x_ep x_off x_high x_life x_pep x_chain x_learner x_lives x_batch x_table x_req x_resp s0 c0 s1 c1 s2 c2 s3 c3 s4 c4 s5 c5 s6 c6).toArray) (fun W => W) rfl (fun L w hD hi hc => ⟨?_,hc.set (by omega) (by omega) (by omega) (by omega) (by omega)⟩) ?_
  ·have hl := run_loadAt_mid (P := Tryz.prog) w pa 0 44 (.int .i64 x_kind::.int .i64 x_frm::.int .i64 x_to::xt x_part x_ep x_off x_high x_life x_pep x_chain x_learner x_lives x_batch x_table x_req x_resp s0 c0 s1 c1 s2 c2 s3 c3 s4 c4 s5 c5 s6 c6) _ (Cl.below CA.out hc.b).range Tryz.underlying44 rfl HI38.out
   exact exec_load rfl rfl hl
  simp only [Act.put,ta',sz',ss']
  refine rQuiet_value (.agg (.int .i64 x_kind::.int .i64 x_frm::.int .i64 x_to::xt x_part x_ep x_off x_high x_life x_pep x_chain x_learner x_lives x_batch x_table x_req x_resp s0 c0 s1 c1 s2 c2 s3 c3 s4 c4 s5 c5 s6 c6).toArray) (fun W => W) rfl (fun L w hD hi hc => ⟨?_,hc.set (by omega) (by omega) (by omega) (by omega) (by omega)⟩) ?_
  ·have hl := run_loadAt_mid (P := Tryz.prog) w pa 0 44 (.int .i64 x_kind::.int .i64 x_frm::.int .i64 x_to::xt x_part x_ep x_off x_high x_life x_pep x_chain x_learner x_lives x_batch x_table x_req x_resp s0 c0 s1 c1 s2 c2 s3 c3 s4 c4 s5 c5 s6 c6) _ (Cl.below CA.out hc.b).range Tryz.underlying44 rfl HI38.out
   exact exec_load rfl rfl hl
  simp only [Act.put,ta',sz',ss']
  refine rQuiet_call (f := 71) (args := #[.agg (.int .i64 x_kind::.int .i64 x_frm::.int .i64 x_to::xt x_part x_ep x_off x_high x_life x_pep x_chain x_learner x_lives x_batch x_table x_req x_resp s0 c0 s1 c1 s2 c2 s3 c3 s4 c4 s5 c5 s6 c6).toArray]) (msgV (Wi.only ⟨x_kind,x_frm,x_to,x_part,x_ep,x_off,x_high,x_life,x_pep,x_chain,x_learner,x_lives,x_batch,x_table,x_req,x_resp⟩) (onlyV ⟨x_kind,x_frm,x_to,x_part,x_ep,x_off,x_high,x_life,x_pep,x_chain,x_learner,x_lives,x_batch,x_table,x_req,x_resp⟩ ⟨.slice s0 x_chain.length c0,.slice s1 x_lives.length c1,.slice s2 x_batch.recs.length c2,.slice s3 x_table.length c3,.slice s4 x_req.recs.length c4,.slice s5 x_resp.parts.length c5,.slice s6 x_resp.recs.length c6⟩)) rfl (fun w => by go_simp) (fun L w hD hi hc => ?_) ?_
  ·exact (only_any ⟨x_kind,x_frm,x_to,x_part,x_ep,x_off,x_high,x_life,x_pep,x_chain,x_learner,x_lives,x_batch,x_table,x_req,x_resp⟩ ⟨.slice s0 x_chain.length c0,.slice s1 x_lives.length c1,.slice s2 x_batch.recs.length c2,.slice s3 x_table.length c3,.slice s4 x_req.recs.length c4,.slice s5 x_resp.parts.length c5,.slice s6 x_resp.recs.length c6⟩ w (M1.out.kept hc.b) HK.out).mono fun e w' ⟨he,hb⟩ => ⟨he,hc.only hb⟩
  simp only [Act.put,ta',sz',ss']
  refine rQuiet_call (f := 22) (args := #[.agg (.int .i64 x_kind::.int .i64 x_frm::.int .i64 x_to::xt x_part x_ep x_off x_high x_life x_pep x_chain x_learner x_lives x_batch x_table x_req x_resp s0 c0 s1 c1 s2 c2 s3 c3 s4 c4 s5 c5 s6 c6).toArray,msgV (Wi.only ⟨x_kind,x_frm,x_to,x_part,x_ep,x_off,x_high,x_life,x_pep,x_chain,x_learner,x_lives,x_batch,x_table,x_req,x_resp⟩) (onlyV ⟨x_kind,x_frm,x_to,x_part,x_ep,x_off,x_high,x_life,x_pep,x_chain,x_learner,x_lives,x_batch,x_table,x_req,x_resp⟩ ⟨.slice s0 x_chain.length c0,.slice s1 x_lives.length c1,.slice s2 x_batch.recs.length c2,.slice s3 x_table.length c3,.slice s4 x_req.recs.length c4,.slice s5 x_resp.parts.length c5,.slice s6 x_resp.recs.length c6⟩)]) (.bool false) rfl (fun w => by go_simp) (fun L w hD hi hc => ?_) ?_
  ·have h43 := ready_wait hi (i := 43) (by kernel_rfl)
   exact (wsame_any ⟨x_kind,x_frm,x_to,x_part,x_ep,x_off,x_high,x_life,x_pep,x_chain,x_learner,x_lives,x_batch,x_table,x_req,x_resp⟩ (Wi.only ⟨x_kind,x_frm,x_to,x_part,x_ep,x_off,x_high,x_life,x_pep,x_chain,x_learner,x_lives,x_batch,x_table,x_req,x_resp⟩) ⟨.slice s0 x_chain.length c0,.slice s1 x_lives.length c1,.slice s2 x_batch.recs.length c2,.slice s3 x_table.length c3,.slice s4 x_req.recs.length c4,.slice s5 x_resp.parts.length c5,.slice s6 x_resp.recs.length c6⟩ (onlyV ⟨x_kind,x_frm,x_to,x_part,x_ep,x_off,x_high,x_life,x_pep,x_chain,x_learner,x_lives,x_batch,x_table,x_req,x_resp⟩ ⟨.slice s0 x_chain.length c0,.slice s1 x_lives.length c1,.slice s2 x_batch.recs.length c2,.slice s3 x_table.length c3,.slice s4 x_req.recs.length c4,.slice s5 x_resp.parts.length c5,.slice s6 x_resp.recs.length c6⟩) w (M1.out.kept hc.b) (M1.out.kept hc.b).only HO.out HO.out.only).mono fun e w' ⟨he,hb⟩ => ⟨by rw [he,G7.out],hc.late hb h43 (by omega) (by omega) (by omega)⟩
  simp only [Act.put,ta',sz',ss']
  refine rQuiet_head 2 (by decide) (by kernel_rfl) (fun i L W h1 h2 hc => hc.set (by omega) (by omega) (by omega) (by omega) (by omega)) ?_
  simp only [tk',t0',dk',d0']
  repeat (go_big_quiet_step (fail))
  refine wpQuiet_nil ?_
  intro w9 hw9
  have T4 := hq' hw9.b
  go_wp2
  go_meet
  case rel => exact ⟨rfl,T4.out⟩
 case rest =>
  obtain ⟨rfl,hwz⟩ := hcut
  have BZ := hq' (BW.out _ hwz)
  clear hwz CA
  go_wp2
  go_ret
  exact ⟨rfl,BZ.out⟩
theorem wgood_any (m : Wi.Msg) (v : MsgV) (w : World) (h : MsgAt w m v) (ok : MsgOk m) (hcap : CapOk v.arecs) (hw : Lw w) :
  Calls Tryz.prog 44 #[msgV m v] w fun e w' => e = .returned (.bool (Wi.good m)) ∧ Below w.heap.size w w' := by
 cases h1 : Wi.inB m.kind 1 9
 ·rw [show Wi.good m = false by simp [Wi.good,Wi.first,h1]]; exact good_none (msgC m v) m.kind rfl h1 w
 cases h2 : Wi.unitB m.frm
 ·rw [show Wi.good m = false by simp [Wi.good,Wi.first,h2]]; exact good_f2 m v w h ok h1 h2
 cases h3 : Wi.unitB m.«to»
 ·rw [show Wi.good m = false by simp [Wi.good,Wi.first,h3]]; exact good_f3 m v w h ok h1 h2 h3
 cases h4 : Wi.inB m.part 0 3
 ·rw [show Wi.good m = false by simp [Wi.good,Wi.first,h4]]; exact good_f4 m v w h ok h1 h2 h3 h4
 cases h5 : Wi.areB 0 1073741824 [m.ep,m.life]
 ·rw [show Wi.good m = false by simp [Wi.good,Wi.first,h5]]; exact good_f5 m v w h ok h1 h2 h3 h4 h5
 cases h6 : Wi.areB (-1) 1099511627776 [m.off,m.high]
 ·rw [show Wi.good m = false by simp [Wi.good,Wi.first,h6]]; exact good_f6 m v w h ok h1 h2 h3 h4 h5 h6
 cases h7 : Wi.same m (Wi.only m)
 ·rw [show Wi.good m = false by simp [Wi.good,Wi.first,h7]]; exact good_f7 m v w h ok h1 h2 h3 h4 h5 h6 h7
 rw [show Wi.good m = Wi.lastB m by simp [Wi.good,Wi.first,h1,h2,h3,h4,h5,h6,h7]]
 exact good_true m v w h ok hcap hw h1 h2 h3 h4 h5 h6 h7
theorem wflag_any (b : Bool) (w : World) : Calls Tryz.prog 113 #[.bool b] w fun e w' => e = .returned (.int .i64 (Cr.flag b)) ∧ w = w' := by
 cases b <;>
 ·go_enter Tryz.func113,Tryz.ntmps113
  go_wp2
  go_ret
  exact ⟨rfl,rfl⟩
theorem cells_new (w : World) (ls : List (List UInt8)) (t : TypeId) : ∀ j u,(sv ls)[j]? = some u → (w.alloc (.cells (sv ls).toArray t)).cell? ((⟨w.heap.size,0,none⟩ : Addr).add j) = some u := fun j u hu => by
 rw [Addr.add_mid,Nat.zero_add,row_cells w (sv ls) t _ (Below.refl _ _) j]
 exact hu
def recL (l : List Cr.Rec) : List (List UInt8) := l.flatMap fun x => [Bd.bInt x.off,Bd.bText x.key,Bd.bText x.val,Bd.bInt (Cr.flag x.gone)]
theorem recL_succ {l : List Cr.Rec} {k : Nat} {x : Cr.Rec} (h : l[k]? = some x) : recL (l.take (k + 1)) = recL (l.take k) ++ [Bd.bInt x.off,Bd.bText x.key,Bd.bText x.val,Bd.bInt (Cr.flag x.gone)] := by
 obtain ⟨hk,rfl⟩ := List.getElem?_eq_some_iff.1 h
 simp only [recL,List.take_succ_eq_append_getElem hk,List.flatMap_append,List.flatMap_cons,List.flatMap_nil,List.append_nil]
theorem recL_len (l : List Cr.Rec) : (recL l).length = l.length * 4 := by
 induction l with
 | nil => rfl
 | cons x r ih => simp only [recL,List.flatMap_cons,List.length_append,List.length_cons,List.length_nil] at ih ⊢; omega
theorem recL_enc (l : List Cr.Rec) : 108::((recL l).flatten ++ [101]) = Wi.encRecs l := by
 have : (recL l).flatten = (l.map Wi.encRec).flatten := by
  induction l with
  | nil => rfl
  | cons x r ih =>
   simp only [recL,List.flatMap_cons,List.flatten_append,List.map_cons,List.flatten_cons] at ih ⊢
   rw [ih]
   simp [Wi.encRec]
 rw [this]
 rfl
theorem wrecs_any (l : List Cr.Rec) (hl : l.length ≤ 16) (hok : ∀ x ∈ l,Cr.isRec x = true ∧ 0 ≤ x.off ∧ x.off ≤ 1099511627776) (rv : Value) (w : World) (h : Recs w rv l) (hw : Lw w) :
  Calls Tryz.prog 82 #[rv] w fun e w' => e = .returned (.string ⟨(Wi.encRecs l).toArray⟩) ∧ Below w.heap.size w w' := by
 have HL := hq' hw
 have HZ := hq' h
 have HR := hq' hok
 have HXL : Hid ((Wi.encRecs l).length ≤ 2082) := by
  have := Wi.flat_le (e := Wi.encRec) (k := 130) l (fun x hx => Wi.encRec_le (hok x hx).1 (hok x hx).2.1 (hok x hx).2.2)
  simp only [Hid,Wi.encRecs,Wi.listB_len]
  omega
 have HRE := hq' (recL_enc l)
 obtain ⟨a,cap,rfl⟩ := h.form
 obtain ⟨i0,hi,hz0,hz1,hz2⟩ := info_parts cinfoStr
 generalize Wi.encRecs l = er at *
 clear h hw hok
 go_enter Tryz.func82,Tryz.ntmps82
 go_wp2
 go_loopw [8,3] (fun i sv' wr => ∃ (k : Nat) (v : Value),i = .int .i64 k ∧ v = sv' ∧ k ≤ l.length ∧ wr.ownsRow w.heap.size 9 1 v (k * 4) (sv (recL (l.take k))) ∧ Below w.heap.size w wr) (fun i _ _ => l.length - (intOf i).toNat)
 case atStart => exact ⟨0,_,rfl,rfl,by omega,⟨rfl,.inl ⟨rfl,rfl⟩⟩,Below.refl _ _⟩
 case round =>
  obtain ⟨k,v,rfl,rfl,hk,hown,hb⟩ := hrel
  have HO := hq' hown
  have BR := hq' hb
  have hszr := hb.size
  clear hown hb
  by_cases hlt : k < l.length
  ·obtain ⟨x,hx⟩ : ∃ x,l[k]? = some x := ⟨l[k],by simp [hlt]⟩
   have HS := hq' (recL_succ hx)
   obtain ⟨hxr,hx0,hx1⟩ := HR.out x (List.mem_of_getElem? hx)
   simp only [Cr.isRec,Bool.and_eq_true,decide_eq_true_eq] at hxr
   obtain ⟨g,off,cap',he,hg,p0,p1,p2,p3⟩ := HZ.out.get BR.out hx
   injection he with he1 he2 he3
   subst he1 he3
   obtain ⟨x0,xk,xv,xg⟩ := x
   dsimp only at *
   obtain ⟨hk16,hv64,-⟩ := hxr
   have HR0 : Hid (Bd.inR x0) := Wi.inR_num ⟨hx0,hx1⟩
   clear he2 hx
   have CX : Hid (Cl (wr.alloc (.cells #[.int .i64 x0,.string ⟨xk.toArray⟩,.string ⟨xv.toArray⟩,.bool xg] 67)) wr.heap.size [.int .i64 x0,.string ⟨xk.toArray⟩,.string ⟨xv.toArray⟩,.bool xg] 67) := Cl.new wr _ _
   have BA : Hid (Below wr.heap.size wr (wr.alloc (.cells #[.int .i64 x0,.string ⟨xk.toArray⟩,.string ⟨xv.toArray⟩,.bool xg] 67))) := (Below.refl _ _).alloc (Nat.le_refl _) _
   go_upto_region 5 with (fail)
   generalize wr.alloc (.cells #[.int .i64 x0,.string ⟨xk.toArray⟩,.string ⟨xv.toArray⟩,.bool xg] 67) = w8 at *
   have HLW : Hid (∀ W,Below w8.heap.size w8 W → Lw W) := fun W hW => HL.out.below (bt BR.out (bt BA.out hW))
   have hne : some wr.heap.size ≠ v.ownBlock := fun h => by have := (HO.out.lt _ h.symm).2; omega
   have HO8 := hq' (ownsRow_below HO.out BA.out)
   have BR8 := hq' (bt BR.out BA.out)
   have hs8 := BR8.out.size
   generalize wr.heap.size = px at *
   have hm0 : Hid (∀ W,Below w8.heap.size w8 W → W.cell? ⟨px,0,none⟩ = some (.int .i64 x0) ∧ W.cell? ⟨px,1,none⟩ = some (.string ⟨xk.toArray⟩) ∧ W.cell? ⟨px,2,none⟩ = some (.string ⟨xv.toArray⟩) ∧ W.cell? ⟨px,3,none⟩ = some (.bool xg)) :=
    fun W hW => ⟨(Cl.cell (CX.out.below hW) 0),(Cl.cell (CX.out.below hW) 1),(Cl.cell (CX.out.below hW) 2),(Cl.cell (CX.out.below hW) 3)⟩
   have J1 := hq' (fun W (hW : Below w8.heap.size w8 W) => beadInt_any x0 HR0.out W (HLW.out W hW))
   have J2 := hq' (fun W (hW : Below w8.heap.size w8 W) => beadText_any xk (by omega) W (HLW.out W hW))
   have J3 := hq' (fun W (hW : Below w8.heap.size w8 W) => beadText_any xv (by omega) W (HLW.out W hW))
   have J5 := hq' (fun W (hW : Below w8.heap.size w8 W) => beadInt_any (Cr.flag xg) (Cr.inR_flag xg) W (HLW.out W hW))
   generalize Bd.bInt x0 = t1 at *
   generalize Bd.bText xk = t2 at *
   generalize Bd.bText xv = t3 at *
   generalize Bd.bInt (Cr.flag xg) = t4 at *
   have T0 : Hid (Below w8.heap.size w8 w8.drew) := (Below.refl _ _).drew
   obtain ⟨q0,q1,q2,q3⟩ := hm0.out _ (Below.refl _ _)
   have hone : ∀ u ∈ [Value.string ⟨t1.toArray⟩,.string ⟨t2.toArray⟩,.string ⟨t3.toArray⟩,.string ⟨t4.toArray⟩],u.oneCell' = true := by simp [Value.oneCell']
   have h63 : k * 4 + 4 ≤ maxLen := by unfold maxLen; omega
   have hby : (k * 4 + 4) * 16 ≤ 140737488355328 := by omega
   clear p0 p1 p2 p3 CX BA HO HR0
   go_region_held3 (fun W => W.cell? ⟨px,0,none⟩ = some (.int .i64 x0) ∧ W.cell? ⟨px,1,none⟩ = some (.string ⟨xk.toArray⟩) ∧ W.cell? ⟨px,2,none⟩ = some (.string ⟨xv.toArray⟩) ∧ W.cell? ⟨px,3,none⟩ = some (.bool xg)) (first | assumption | exact ⟨q0,q1,q2,q3⟩ | exact S1.out | exact S2.out | exact S3.out | exact S5.out | exact hm0.out _ U5.out | exact S7.out) (first
    | (go_at_call 83; refine (J1.out _ T0.out).mono ?_; rintro e w91 ⟨rfl,hb91⟩; have T1 := hq' (bt T0.out hb91); have S1 := hq' (hm0.out _ T1.out); clear hb91)
    | (go_at_call 81; refine (J2.out _ T1.out).mono ?_; rintro e w92 ⟨rfl,hb92⟩; have T2 := hq' (bt T1.out hb92); have S2 := hq' (hm0.out _ T2.out); clear hb92)
    | (go_at_call 81; refine (J3.out _ T2.out).mono ?_; rintro e w93 ⟨rfl,hb93⟩; have T3 := hq' (bt T2.out hb93); have S3 := hq' (hm0.out _ T3.out); clear hb93)
    | (go_at_call 113; refine (wflag_any _ _).mono ?_; rintro e w94 ⟨rfl,rfl⟩)
    | (go_at_call 83; refine (J5.out _ T3.out).mono ?_; rintro e w95 ⟨rfl,hb95⟩; have T5 := hq' (bt T3.out hb95); have S5 := hq' (hm0.out _ T5.out); clear hb95; have U5 := hq' (T5.out.alloc T5.out.size (.cells #[.string ⟨t1.toArray⟩,.string ⟨t2.toArray⟩,.string ⟨t3.toArray⟩,.string ⟨t4.toArray⟩] 9)); have HO5 := hq' (ownsRow_below HO8.out T5.out))
    | (refine step_append_lies _ (by rfl) _ _ _ (by rfl) w.heap.size 9 i0 _ 1 16 Tryz.underlying93 hi hz0 hz1 hz2 rfl Nat.one_pos v (k * 4) (sv (recL (l.take k))) (by rfl) (World.ownsRow.alloc HO5.out _) ⟨w95.heap.size,0,none⟩ 4 4 [.string ⟨t1.toArray⟩,.string ⟨t2.toArray⟩,.string ⟨t3.toArray⟩,.string ⟨t4.toArray⟩] (by rfl) (by rfl) (cells_new _ [t1,t2,t3,t4] _) hone (by decide) h63 hby (Nat.le_trans hs8 U5.out.size) (w95.heap.size + 1) (World.size_alloc _ _) ?_; intro g11 cap11 w11 hown11 hg11 hat11 hlt11; have S7 := hq' (And.intro (hg11.cell (hm0.out _ U5.out).1 hne) (And.intro (hg11.cell (hm0.out _ U5.out).2.1 hne) (And.intro (hg11.cell (hm0.out _ U5.out).2.2.1 hne) (hg11.cell (hm0.out _ U5.out).2.2.2 hne))))))
   have H11 : Hid (w11.ownsRow w.heap.size 9 1 (.slice (some ⟨g11,0,none⟩) (k * 4 + 4) cap11) ((k + 1) * 4) (sv (recL (l.take (k + 1))))) := by
    rw [Hid,HS.out,sv_append,show (k + 1) * 4 = k * 4 + 4 by omega]
    exact hown11
   have BC : Hid (Below w.heap.size w (w95.alloc (.cells #[.string ⟨t1.toArray⟩,.string ⟨t2.toArray⟩,.string ⟨t3.toArray⟩,.string ⟨t4.toArray⟩] 9))) := bt BR8.out U5.out
   have B11 : Hid (Below w.heap.size w w11) := BC.out.grown hg11 BC.out.size (fun kk hkk => (HO5.out.lt kk hkk).1)
   clear hown11 hg11
   go_wp2
   go_roundw
   case rel => exact ⟨k + 1,_,by go_num,rfl,by omega,H11.out,B11.out⟩
   case measure => simp [intOf]; omega
  ·obtain rfl : k = l.length := by omega
   have ho := HO.out
   rw [List.take_length] at ho
   have HSO := hq' (strs_own ho)
   have htl := HXL.out
   have hfl : (recL l).flatten.length ≤ 2082 := by
    have := congrArg List.length HRE.out
    simp only [List.length_cons,List.length_append,List.length_nil] at this
    omega
   have HLI := hq' (beadList_any _ _ _ HSO.out (by rw [recL_len]; omega) (by omega))
   rw [HRE.out] at HLI
   clear ho HSO hfl htl
   go_wp2_with fail
   refine HLI.out.mono ?_
   rintro e w10 ⟨rfl,hb10⟩
   have B10 := hq' (bt BR.out hb10)
   clear hb10
   go_wp2
   go_ret
   exact ⟨rfl,B10.out⟩
end Go.Proofs.YtbljbdjmgogknaaGreatDoor
