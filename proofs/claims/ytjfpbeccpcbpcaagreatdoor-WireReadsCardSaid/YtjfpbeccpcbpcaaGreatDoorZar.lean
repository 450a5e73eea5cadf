/-
  Wga4 / Wga5 / Wga6: texts of one proof, one behind the other.
  Conditions: none of its own.
-/
import Derived.Test.YtjfpbeccpcbpcaaGreatDoorZah
set_option linter.unusedVariables false
set_option linter.unusedSimpArgs false
set_option maxHeartbeats 12800000
set_option maxRecDepth 20000
namespace Go.Proofs.YtjfpbeccpcbpcaaGreatDoor
open Go.RowKit
theorem good_f4 (m : Wi.Msg) (v : MsgV) (w : World) (h : MsgAt w m v) (ok : MsgOk m) (h1 : Wi.inB m.kind 1 9 = true) (h2 : Wi.unitB m.frm = true) (h3 : Wi.unitB m.«to» = true) (h4 : Wi.inB m.part 0 3 = false) :
  Calls Tryz.prog 13 #[msgV m v] w fun e w' => e = .returned (.bool false) ∧ Below w.heap.size w w' := by
 have HM := hq' h
 have HO := hq' ok
 obtain ⟨s0, c0, s1, c1, s2, c2, s3, c3, s4, c4, s5, c5, s6, c6, rfl⟩ := h.slices
 obtain ⟨x_kind, x_frm, x_to, x_part, x_ep, x_off, x_high, x_life, x_pep, x_chain, x_learner, x_lives, x_batch, x_table, x_req, x_resp⟩ := m
 dsimp only at *
 clear h ok
 have HK : Hid (1 ≤ x_kind ∧ x_kind ≤ 9) := by simpa [Hid, Wi.inB] using h1
 have G1 := hq' h1
 have G2 := hq' h2
 have G3 := hq' h3
 have G4 := hq' h4
 clear h1 h2 h3 h4
 have HI38 := hq' (show (Tryz.prog.info? 36).map (·.size) = some ((.int .i64 x_kind :: .int .i64 x_frm :: .int .i64 x_to :: xt x_part x_ep x_off x_high x_life x_pep x_chain x_learner x_lives x_batch x_table x_req x_resp s0 c0 s1 c1 s2 c2 s3 c3 s4 c4 s5 c5 s6 c6) : List Value).length by kernel_rfl)
 unfold msgV msgC
 dsimp only
 go_enter Tryz.func13, Tryz.ntmps13
 obtain ⟨w1, hw1, CA, B1⟩ := oneBox (w := w) (.int .i64 x_kind :: .int .i64 x_frm :: .int .i64 x_to :: xt x_part x_ep x_off x_high x_life x_pep x_chain x_learner x_lives x_batch x_table x_req x_resp s0 c0 s1 c1 s2 c2 s3 c3 s4 c4 s5 c5 s6 c6) 36
 have HW1 := hq' hw1
 clear hw1
 go_upto_region 1 with (fail)
 first | rw [HW1.out] | skip
 clear HW1
 have M1 := hq' (HM.out.kept B1.out)
 have BW : Hid (∀ W, Below w1.heap.size w1 W → Below w.heap.size w W) := fun W h => bt B1.out h
 generalize w.heap.size = pa at CA ⊢
 clear HM
 go_cut [51] (fun t51 wz => t51 = .bool true ∧ Below w1.heap.size w1 wz)
 case first =>
  have m0 : ∀ y : AnyOf (fun (L : Array Bool) (W : World) => W = w1.drew), y.1.cell? ⟨pa, 0, none⟩ = some (.int .i64 x_kind) := fun y => by
   obtain ⟨L, hL⟩ := y.2
   rw [show y.1 = w1.drew from hL]
   exact CA.out.cell 0
  have m1 : ∀ y : AnyOf (fun (L : Array Bool) (W : World) => W = w1.drew), y.1.cell? ⟨pa, 1, none⟩ = some (.int .i64 x_frm) := fun y => by
   obtain ⟨L, hL⟩ := y.2
   rw [show y.1 = w1.drew from hL]
   exact CA.out.cell 1
  have m2 : ∀ y : AnyOf (fun (L : Array Bool) (W : World) => W = w1.drew), y.1.cell? ⟨pa, 2, none⟩ = some (.int .i64 x_to) := fun y => by
   obtain ⟨L, hL⟩ := y.2
   rw [show y.1 = w1.drew from hL]
   exact CA.out.cell 2
  have m3 : ∀ y : AnyOf (fun (L : Array Bool) (W : World) => W = w1.drew), y.1.cell? ⟨pa, 3, none⟩ = some (.int .i64 x_part) := fun y => by
   obtain ⟨L, hL⟩ := y.2
   rw [show y.1 = w1.drew from hL]
   exact CA.out.cell 3
  have m4 : ∀ y : AnyOf (fun (L : Array Bool) (W : World) => W = w1.drew), y.1.cell? ⟨pa, 4, none⟩ = some (.int .i64 x_ep) := fun y => by
   obtain ⟨L, hL⟩ := y.2
   rw [show y.1 = w1.drew from hL]
   exact CA.out.cell 4
  have m5 : ∀ y : AnyOf (fun (L : Array Bool) (W : World) => W = w1.drew), y.1.cell? ⟨pa, 5, none⟩ = some (.int .i64 x_off) := fun y => by
   obtain ⟨L, hL⟩ := y.2
   rw [show y.1 = w1.drew from hL]
   exact CA.out.cell 5
  have m6 : ∀ y : AnyOf (fun (L : Array Bool) (W : World) => W = w1.drew), y.1.cell? ⟨pa, 6, none⟩ = some (.int .i64 x_high) := fun y => by
   obtain ⟨L, hL⟩ := y.2
   rw [show y.1 = w1.drew from hL]
   exact CA.out.cell 6
  have m7 : ∀ y : AnyOf (fun (L : Array Bool) (W : World) => W = w1.drew), y.1.cell? ⟨pa, 7, none⟩ = some (.int .i64 x_life) := fun y => by
   obtain ⟨L, hL⟩ := y.2
   rw [show y.1 = w1.drew from hL]
   exact CA.out.cell 7
  have hC0 : (fun (L : Array Bool) (W : World) => W = w1.drew) (Array.replicate 47 false) w1.drew := rfl
  have hne : Nonempty (AnyOf (fun (L : Array Bool) (W : World) => W = w1.drew)) := ⟨⟨_, Array.replicate 47 false, hC0⟩⟩
  go_wp2
  refine wp_region_ranks (fun (L : Array Bool) (W : World) => W = w1.drew) _ (by kernel_rfl) (by kernel_rfl) rfl rfl ?_
  refine rQuiet_head 2 (by decide) (by kernel_rfl) (fun i L W h1 h2 hc => hc) ?_
  simp only [tk', t0', dk', d0']
  repeat (go_big_quiet_step (fail))
  refine wpQuiet_nil ?_
  refine rQuiet_call (f := 31) (args := #[.int .i64 x_kind, .int .i64 1, .int .i64 9]) (.bool true) rfl (fun w => by go_simp) (fun L w hD hi hc => (wwithin_any x_kind 1 9 w).mono fun e w' ⟨he, hw⟩ => ⟨by rw [he, G1.out], by rw [hw]; exact hc⟩) ?_
  simp only [Act.put, ta', sz', ss']
  refine rQuiet_head 4 (by decide) (by kernel_rfl) (fun i L W h1 h2 hc => hc) ?_
  simp only [tk', t0', dk', d0']
  repeat (go_big_quiet_step (fail))
  refine wpQuiet_nil ?_
  refine rQuiet_call (f := 32) (args := #[.int .i64 x_frm]) (.bool true) rfl (fun w => by go_simp) (fun L w hD hi hc => (isUnit_any x_frm w).mono fun e w' ⟨he, hw⟩ => ⟨by rw [he, G2.out], by rw [hw]; exact hc⟩) ?_
  simp only [Act.put, ta', sz', ss']
  refine rQuiet_head 5 (by decide) (by kernel_rfl) (fun i L W h1 h2 hc => hc) ?_
  simp only [tk', t0', dk', d0']
  repeat (go_big_quiet_step (fail))
  refine wpQuiet_nil ?_
  refine rQuiet_call (f := 32) (args := #[.int .i64 x_to]) (.bool true) rfl (fun w => by go_simp) (fun L w hD hi hc => (isUnit_any x_to w).mono fun e w' ⟨he, hw⟩ => ⟨by rw [he, G3.out], by rw [hw]; exact hc⟩) ?_
  simp only [Act.put, ta', sz', ss']
  refine rQuiet_head 5 (by decide) (by kernel_rfl) (fun i L W h1 h2 hc => hc) ?_
  simp only [tk', t0', dk', d0']
  repeat (go_big_quiet_step (fail))
  refine wpQuiet_nil ?_
  refine rQuiet_call (f := 31) (args := #[.int .i64 x_part, .int .i64 0, .int .i64 3]) (.bool false) rfl (fun w => by go_simp) (fun L w hD hi hc => (wwithin_any x_part 0 3 w).mono fun e w' ⟨he, hw⟩ => ⟨by rw [he, G4.out], by rw [hw]; exact hc⟩) ?_
  simp only [Act.put, ta', sz', ss']
  refine rQuiet_head 7 (by decide) (by kernel_rfl) (fun i L W h1 h2 hc => hc) ?_
  simp only [tk', t0', dk', d0']
  repeat (go_big_quiet_step (fail))
  refine wpQuiet_nil ?_
  refine rQuiet_none (by go_simp) (fun L w hD hi hc => hc) ?_
  simp only [Act.put, ta', sz', ss']
  refine rQuiet_none (by go_simp) (fun L w hD hi hc => hc) ?_
  simp only [Act.put, ta', sz', ss']
  refine rQuiet_head 7 (by decide) (by kernel_rfl) (fun i L W h1 h2 hc => hc) ?_
  simp only [tk', t0', dk', d0']
  repeat (go_big_quiet_step (fail))
  refine wpQuiet_nil ?_
  refine rQuiet_none (by go_simp) (fun L w hD hi hc => hc) ?_
  simp only [Act.put, ta', sz', ss']
  refine rQuiet_none (by go_simp) (fun L w hD hi hc => hc) ?_
  simp only [Act.put, ta', sz', ss']
  refine rQuiet_head 3 (by decide) (by kernel_rfl) (fun i L W h1 h2 hc => hc) ?_
  simp only [tk', t0', dk', d0']
  repeat (go_big_quiet_step (fail))
  refine wpQuiet_nil ?_
  refine rQuiet_none (by go_simp) (fun L w hD hi hc => hc) ?_
  simp only [Act.put, ta', sz', ss']
  refine rQuiet_none (by go_simp) (fun L w hD hi hc => hc) ?_
  simp only [Act.put, ta', sz', ss']
  refine rQuiet_none (by go_simp) (fun L w hD hi hc => hc) ?_
  simp only [Act.put, ta', sz', ss']
  refine rQuiet_none (by go_simp) (fun L w hD hi hc => hc) ?_
  simp only [Act.put, ta', sz', ss']
  refine rQuiet_head 2 (by decide) (by kernel_rfl) (fun i L W h1 h2 hc => hc) ?_
  simp only [tk', t0', dk', d0']
  repeat (go_big_quiet_step (fail))
  refine wpQuiet_nil ?_
  intro w9 hw9
  have T4 := hq' hw9
  go_wp2
  go_meet
  case rel => exact ⟨rfl, by rw [show w9 = w1.drew from T4.out]; exact (Below.refl _ _).drew⟩
 case rest =>
  obtain ⟨rfl, hwz⟩ := hcut
  have BZ := hq' (BW.out _ hwz)
  clear hwz CA
  go_wp2
  go_ret
  exact ⟨rfl, BZ.out⟩
structure gB (w1 : World) (e l : Int) (t : TypeId) (L : Array Bool) (W : World) : Prop where
 b : Below w1.heap.size w1 W
 s : L.getD 27 false = false → L.getD 28 false = false → W.heap.size = w1.heap.size
 c1 : L.getD 27 false = true → Cl W w1.heap.size [.int .i64 e, .int .i64 l] t
 z : L.size = 47
theorem gB.set {w1 W : World} {e l : Int} {t : TypeId} {L : Array Bool} (c : gB w1 e l t L W) {i : Nat} (h1 : i ≠ 27) (h2 : i ≠ 28) : gB w1 e l t (L.setIfInBounds i true) W := by
 refine ⟨c.b, ?_, ?_, by rw [Array.size_setIfInBounds]; exact c.z⟩
 ·rw [getD_set_ne false h1, getD_set_ne false h2]; exact c.s
 ·rw [getD_set_ne false h1]; exact c.c1
theorem gB.build {w1 W : World} {e l : Int} {t : TypeId} {L : Array Bool} (c : gB w1 e l t L W) (hs : W.heap.size = w1.heap.size) (h28 : L.getD 28 false = false) :
  gB w1 e l t (L.setIfInBounds 27 true) (W.alloc (.cells #[.int .i64 e, .int .i64 l] t)) := by
 refine ⟨c.b.alloc (by omega) _, fun h => ?_, fun _ => ?_, by rw [Array.size_setIfInBounds]; exact c.z⟩
 ·rw [set_same (by rw [c.z]; decide)] at h; cases h
 ·rw [← hs]; exact Cl.new W _ _
theorem gB.are {w1 W W' : World} {e l : Int} {t : TypeId} {L : Array Bool} (c : gB w1 e l t L W) (hb : Below W.heap.size W W') (h27 : L.getD 27 false = true) : gB w1 e l t (L.setIfInBounds 28 true) W' := by
 refine ⟨bt c.b hb, fun _ h => ?_, fun _ => Cl.below (c.c1 h27) hb, by rw [Array.size_setIfInBounds]; exact c.z⟩
 rw [set_same (by rw [c.z]; decide)] at h; cases h
theorem gB.cell {w1 : World} {e l : Int} {t tm : TypeId} {pa : Nat} {cs : List Value} (CA : Cl w1 pa cs tm) (x : AnyOf (gB w1 e l t)) {k : Nat} {u : Value} (hu : cs[k]? = some u) : x.1.cell? ⟨pa, k, none⟩ = some u := by
 obtain ⟨W, L, hL⟩ := x
 exact ((Cl.below CA hL.b).cell k).trans hu
theorem good_f5 (m : Wi.Msg) (v : MsgV) (w : World) (h : MsgAt w m v) (ok : MsgOk m) (h1 : Wi.inB m.kind 1 9 = true) (h2 : Wi.unitB m.frm = true) (h3 : Wi.unitB m.«to» = true) (h4 : Wi.inB m.part 0 3 = true) (h5 : Wi.areB 0 1073741824 [m.ep, m.life] = false) :
  Calls Tryz.prog 13 #[msgV m v] w fun e w' => e = .returned (.bool false) ∧ Below w.heap.size w w' := by
 have HM := hq' h
 have HO := hq' ok
 obtain ⟨s0, c0, s1, c1, s2, c2, s3, c3, s4, c4, s5, c5, s6, c6, rfl⟩ := h.slices
 obtain ⟨x_kind, x_frm, x_to, x_part, x_ep, x_off, x_high, x_life, x_pep, x_chain, x_learner, x_lives, x_batch, x_table, x_req, x_resp⟩ := m
 dsimp only at *
 clear h ok
 have HK : Hid (1 ≤ x_kind ∧ x_kind ≤ 9) := by simpa [Hid, Wi.inB] using h1
 have G1 := hq' h1
 have G2 := hq' h2
 have G3 := hq' h3
 have G4 := hq' h4
 have G5 := hq' h5
 clear h1 h2 h3 h4 h5
 have HI38 := hq' (show (Tryz.prog.info? 36).map (·.size) = some ((.int .i64 x_kind :: .int .i64 x_frm :: .int .i64 x_to :: xt x_part x_ep x_off x_high x_life x_pep x_chain x_learner x_lives x_batch x_table x_req x_resp s0 c0 s1 c1 s2 c2 s3 c3 s4 c4 s5 c5 s6 c6) : List Value).length by kernel_rfl)
 unfold msgV msgC
 dsimp only
 go_enter Tryz.func13, Tryz.ntmps13
 obtain ⟨w1, hw1, CA, B1⟩ := oneBox (w := w) (.int .i64 x_kind :: .int .i64 x_frm :: .int .i64 x_to :: xt x_part x_ep x_off x_high x_life x_pep x_chain x_learner x_lives x_batch x_table x_req x_resp s0 c0 s1 c1 s2 c2 s3 c3 s4 c4 s5 c5 s6 c6) 36
 have HW1 := hq' hw1
 clear hw1
 go_upto_region 1 with (fail)
 first | rw [HW1.out] | skip
 clear HW1
 have M1 := hq' (HM.out.kept B1.out)
 have BW : Hid (∀ W, Below w1.heap.size w1 W → Below w.heap.size w W) := fun W h => bt B1.out h
 generalize w.heap.size = pa at CA ⊢
 clear HM
 go_cut [51] (fun t51 wz => t51 = .bool true ∧ Below w1.heap.size w1 wz)
 case first =>
  have m0 := fun x : AnyOf (gB w1 x_ep x_life 3) => gB.cell CA.out x (k := 0) rfl
  have m1 := fun x : AnyOf (gB w1 x_ep x_life 3) => gB.cell CA.out x (k := 1) rfl
  have m2 := fun x : AnyOf (gB w1 x_ep x_life 3) => gB.cell CA.out x (k := 2) rfl
  have m3 := fun x : AnyOf (gB w1 x_ep x_life 3) => gB.cell CA.out x (k := 3) rfl
  have m4 := fun x : AnyOf (gB w1 x_ep x_life 3) => gB.cell CA.out x (k := 4) rfl
  have m5 := fun x : AnyOf (gB w1 x_ep x_life 3) => gB.cell CA.out x (k := 5) rfl
  have m6 := fun x : AnyOf (gB w1 x_ep x_life 3) => gB.cell CA.out x (k := 6) rfl
  have m7 := fun x : AnyOf (gB w1 x_ep x_life 3) => gB.cell CA.out x (k := 7) rfl
  have hC0 : (gB w1 x_ep x_life 3) (Array.replicate 47 false) w1.drew := ⟨(Below.refl _ _).drew, fun _ _ => rfl, fun h => (by simp at h), by simp⟩
  have hne : Nonempty (AnyOf (gB w1 x_ep x_life 3)) := ⟨⟨_, Array.replicate 47 false, hC0⟩⟩
  go_wp2
  refine wp_region_ranks (gB w1 x_ep x_life 3) _ (by kernel_rfl) (by kernel_rfl) rfl hC0 ?_
  refine rQuiet_head 2 (by decide) (by kernel_rfl) (fun i L W h1 h2 hc => hc.set (by omega) (by omega)) ?_
  simp only [tk', t0', dk', d0']
  repeat (go_big_quiet_step (fail))
  refine wpQuiet_nil ?_
  refine rQuiet_call (f := 31) (args := #[.int .i64 x_kind, .int .i64 1, .int .i64 9]) (.bool true) rfl (fun w => by go_simp) (fun L w hD hi hc => (wwithin_any x_kind 1 9 w).mono fun e w' ⟨he, hw⟩ => ⟨by rw [he, G1.out], by rw [hw]; exact hc.set (by omega) (by omega)⟩) ?_
  simp only [Act.put, ta', sz', ss']
  refine rQuiet_head 4 (by decide) (by kernel_rfl) (fun i L W h1 h2 hc => hc.set (by omega) (by omega)) ?_
  simp only [tk', t0', dk', d0']
  repeat (go_big_quiet_step (fail))
  refine wpQuiet_nil ?_
  refine rQuiet_call (f := 32) (args := #[.int .i64 x_frm]) (.bool true) rfl (fun w => by go_simp) (fun L w hD hi hc => (isUnit_any x_frm w).mono fun e w' ⟨he, hw⟩ => ⟨by rw [he, G2.out], by rw [hw]; exact hc.set (by omega) (by omega)⟩) ?_
  simp only [Act.put, ta', sz', ss']
  refine rQuiet_head 5 (by decide) (by kernel_rfl) (fun i L W h1 h2 hc => hc.set (by omega) (by omega)) ?_
  simp only [tk', t0', dk', d0']
  repeat (go_big_quiet_step (fail))
  refine wpQuiet_nil ?_
  refine rQuiet_call (f := 32) (args := #[.int .i64 x_to]) (.bool true) rfl (fun w => by go_simp) (fun L w hD hi hc => (isUnit_any x_to w).mono fun e w' ⟨he, hw⟩ => ⟨by rw [he, G3.out], by rw [hw]; exact hc.set (by omega) (by omega)⟩) ?_
  simp only [Act.put, ta', sz', ss']
  refine rQuiet_head 5 (by decide) (by kernel_rfl) (fun i L W h1 h2 hc => hc.set (by omega) (by omega)) ?_
  simp only [tk', t0', dk', d0']
  repeat (go_big_quiet_step (fail))
  refine wpQuiet_nil ?_
  refine rQuiet_call (f := 31) (args := #[.int .i64 x_part, .int .i64 0, .int .i64 3]) (.bool true) rfl (fun w => by go_simp) (fun L w hD hi hc => (wwithin_any x_part 0 3 w).mono fun e w' ⟨he, hw⟩ => ⟨by rw [he, G4.out], by rw [hw]; exact hc.set (by omega) (by omega)⟩) ?_
  simp only [Act.put, ta', sz', ss']
  refine rQuiet_head 7 (by decide) (by kernel_rfl) (fun i L W h1 h2 hc => hc.set (by omega) (by omega)) ?_
  simp only [tk', t0', dk', d0']
  repeat (go_big_quiet_step (fail))
  refine wpQuiet_nil ?_
  refine rQuiet_value (.slice (some ⟨w1.heap.size, 0, none⟩) 2 2) (fun W => W.alloc (.cells #[.int .i64 x_ep, .int .i64 x_life] 3)) rfl (fun L w hD hi hc => ?_) ?_
  ·have h27 := ready_not hi
   have h28 : L.getD 28 false = false := no_of (fun h => hD.wait (j := 28) (i := 27) (by kernel_rfl) h) h27
   have hs := hc.s h27 h28
   refine ⟨by rw [← hs]; go_simp, ?_⟩
   exact hc.build hs h28
  simp only [Act.put, ta', sz', ss']
  refine rQuiet_call (f := 33) (args := #[.int .i64 0, .int .i64 1073741824, .slice (some ⟨w1.heap.size, 0, none⟩) 2 2]) (.bool false) rfl (fun w => by go_simp) (fun L w hD hi hc => ?_) ?_
  ·have h27 := ready_wait hi (i := 27) (by kernel_rfl)
   exact (are_sz [x_ep, x_life] (by simp [maxLen]) _ 0 1073741824 w (ints2_cl (hc.c1 h27))).mono fun e w' ⟨he, hb, hz⟩ => ⟨by rw [he, G5.out], hc.are hb h27⟩
  simp only [Act.put, ta', sz', ss']
  refine rQuiet_head 7 (by decide) (by kernel_rfl) (fun i L W h1 h2 hc => hc.set (by omega) (by omega)) ?_
  simp only [tk', t0', dk', d0']
  repeat (go_big_quiet_step (fail))
  refine wpQuiet_nil ?_
  refine rQuiet_none (by go_simp) (fun L w hD hi hc => hc.set (by omega) (by omega)) ?_
  simp only [Act.put, ta', sz', ss']
  refine rQuiet_none (by go_simp) (fun L w hD hi hc => hc.set (by omega) (by omega)) ?_
  simp only [Act.put, ta', sz', ss']
  refine rQuiet_head 3 (by decide) (by kernel_rfl) (fun i L W h1 h2 hc => hc.set (by omega) (by omega)) ?_
  simp only [tk', t0', dk', d0']
  repeat (go_big_quiet_step (fail))
  refine wpQuiet_nil ?_
  refine rQuiet_none (by go_simp) (fun L w hD hi hc => hc.set (by omega) (by omega)) ?_
  simp only [Act.put, ta', sz', ss']
  refine rQuiet_none (by go_simp) (fun L w hD hi hc => hc.set (by omega) (by omega)) ?_
  simp only [Act.put, ta', sz', ss']
  refine rQuiet_none (by go_simp) (fun L w hD hi hc => hc.set (by omega) (by omega)) ?_
  simp only [Act.put, ta', sz', ss']
  refine rQuiet_none (by go_simp) (fun L w hD hi hc => hc.set (by omega) (by omega)) ?_
  simp only [Act.put, ta', sz', ss']
  refine rQuiet_head 2 (by decide) (by kernel_rfl) (fun i L W h1 h2 hc => hc.set (by omega) (by omega)) ?_
  simp only [tk', t0', dk', d0']
  repeat (go_big_quiet_step (fail))
  refine wpQuiet_nil ?_
  intro w9 hw9
  have T4 := hq' hw9.b
  go_wp2
  go_meet
  case rel => exact ⟨rfl, T4.out⟩
 case rest =>
  obtain ⟨rfl, hwz⟩ := hcut
  have BZ := hq' (BW.out _ hwz)
  clear hwz CA
  go_wp2
  go_ret
  exact ⟨rfl, BZ.out⟩
theorem good_f6 (m : Wi.Msg) (v : MsgV) (w : World) (h : MsgAt w m v) (ok : MsgOk m) (h1 : Wi.inB m.kind 1 9 = true) (h2 : Wi.unitB m.frm = true) (h3 : Wi.unitB m.«to» = true) (h4 : Wi.inB m.part 0 3 = true) (h5 : Wi.areB 0 1073741824 [m.ep, m.life] = true) (h6 : Wi.areB (-1) 1099511627776 [m.off, m.high] = false) :
  Calls Tryz.prog 13 #[msgV m v] w fun e w' => e = .returned (.bool false) ∧ Below w.heap.size w w' := by
 have HM := hq' h
 have HO := hq' ok
 obtain ⟨s0, c0, s1, c1, s2, c2, s3, c3, s4, c4, s5, c5, s6, c6, rfl⟩ := h.slices
 obtain ⟨x_kind, x_frm, x_to, x_part, x_ep, x_off, x_high, x_life, x_pep, x_chain, x_learner, x_lives, x_batch, x_table, x_req, x_resp⟩ := m
 dsimp only at *
 clear h ok
 have HK : Hid (1 ≤ x_kind ∧ x_kind ≤ 9) := by simpa [Hid, Wi.inB] using h1
 have G1 := hq' h1
 have G2 := hq' h2
 have G3 := hq' h3
 have G4 := hq' h4
 have G5 := hq' h5
 have G6 := hq' h6
 clear h1 h2 h3 h4 h5 h6
 have HI38 := hq' (show (Tryz.prog.info? 36).map (·.size) = some ((.int .i64 x_kind :: .int .i64 x_frm :: .int .i64 x_to :: xt x_part x_ep x_off x_high x_life x_pep x_chain x_learner x_lives x_batch x_table x_req x_resp s0 c0 s1 c1 s2 c2 s3 c3 s4 c4 s5 c5 s6 c6) : List Value).length by kernel_rfl)
 unfold msgV msgC
 dsimp only
 go_enter Tryz.func13, Tryz.ntmps13
 obtain ⟨w1, hw1, CA, B1⟩ := oneBox (w := w) (.int .i64 x_kind :: .int .i64 x_frm :: .int .i64 x_to :: xt x_part x_ep x_off x_high x_life x_pep x_chain x_learner x_lives x_batch x_table x_req x_resp s0 c0 s1 c1 s2 c2 s3 c3 s4 c4 s5 c5 s6 c6) 36
 have HW1 := hq' hw1
 clear hw1
 go_upto_region 1 with (fail)
 first | rw [HW1.out] | skip
 clear HW1
 have M1 := hq' (HM.out.kept B1.out)
 have BW : Hid (∀ W, Below w1.heap.size w1 W → Below w.heap.size w W) := fun W h => bt B1.out h
 generalize w.heap.size = pa at CA ⊢
 clear HM
 go_cut [51] (fun t51 wz => t51 = .bool true ∧ Below w1.heap.size w1 wz)
 case first =>
  have m0 := fun x : AnyOf (gC w1 x_ep x_life x_off x_high 3) => gC.cell CA.out x (k := 0) rfl
  have m1 := fun x : AnyOf (gC w1 x_ep x_life x_off x_high 3) => gC.cell CA.out x (k := 1) rfl
  have m2 := fun x : AnyOf (gC w1 x_ep x_life x_off x_high 3) => gC.cell CA.out x (k := 2) rfl
  have m3 := fun x : AnyOf (gC w1 x_ep x_life x_off x_high 3) => gC.cell CA.out x (k := 3) rfl
  have m4 := fun x : AnyOf (gC w1 x_ep x_life x_off x_high 3) => gC.cell CA.out x (k := 4) rfl
  have m5 := fun x : AnyOf (gC w1 x_ep x_life x_off x_high 3) => gC.cell CA.out x (k := 5) rfl
  have m6 := fun x : AnyOf (gC w1 x_ep x_life x_off x_high 3) => gC.cell CA.out x (k := 6) rfl
  have m7 := fun x : AnyOf (gC w1 x_ep x_life x_off x_high 3) => gC.cell CA.out x (k := 7) rfl
  have hC0 : (gC w1 x_ep x_life x_off x_high 3) (Array.replicate 47 false) w1.drew := ⟨(Below.refl _ _).drew, fun _ => rfl, fun h => (by simp at h), fun h => (by simp at h), by simp⟩
  have hne : Nonempty (AnyOf (gC w1 x_ep x_life x_off x_high 3)) := ⟨⟨_, Array.replicate 47 false, hC0⟩⟩
  go_wp2
  refine wp_region_ranks (gC w1 x_ep x_life x_off x_high 3) _ (by kernel_rfl) (by kernel_rfl) rfl hC0 ?_
  refine rQuiet_head 2 (by decide) (by kernel_rfl) (fun i L W h1 h2 hc => hc.set (by omega) (by omega) (by omega) (by omega) (by omega)) ?_
  simp only [tk', t0', dk', d0']
  repeat (go_big_quiet_step (fail))
  refine wpQuiet_nil ?_
  refine rQuiet_call (f := 31) (args := #[.int .i64 x_kind, .int .i64 1, .int .i64 9]) (.bool true) rfl (fun w => by go_simp) (fun L w hD hi hc => (wwithin_any x_kind 1 9 w).mono fun e w' ⟨he, hw⟩ => ⟨by rw [he, G1.out], by rw [hw]; exact hc.set (by omega) (by omega) (by omega) (by omega) (by omega)⟩) ?_
  simp only [Act.put, ta', sz', ss']
  refine rQuiet_head 4 (by decide) (by kernel_rfl) (fun i L W h1 h2 hc => hc.set (by omega) (by omega) (by omega) (by omega) (by omega)) ?_
  simp only [tk', t0', dk', d0']
  repeat (go_big_quiet_step (fail))
  refine wpQuiet_nil ?_
  refine rQuiet_call (f := 32) (args := #[.int .i64 x_frm]) (.bool true) rfl (fun w => by go_simp) (fun L w hD hi hc => (isUnit_any x_frm w).mono fun e w' ⟨he, hw⟩ => ⟨by rw [he, G2.out], by rw [hw]; exact hc.set (by omega) (by omega) (by omega) (by omega) (by omega)⟩) ?_
  simp only [Act.put, ta', sz', ss']
  refine rQuiet_head 5 (by decide) (by kernel_rfl) (fun i L W h1 h2 hc => hc.set (by omega) (by omega) (by omega) (by omega) (by omega)) ?_
  simp only [tk', t0', dk', d0']
  repeat (go_big_quiet_step (fail))
  refine wpQuiet_nil ?_
  refine rQuiet_call (f := 32) (args := #[.int .i64 x_to]) (.bool true) rfl (fun w => by go_simp) (fun L w hD hi hc => (isUnit_any x_to w).mono fun e w' ⟨he, hw⟩ => ⟨by rw [he, G3.out], by rw [hw]; exact hc.set (by omega) (by omega) (by omega) (by omega) (by omega)⟩) ?_
  simp only [Act.put, ta', sz', ss']
  refine rQuiet_head 5 (by decide) (by kernel_rfl) (fun i L W h1 h2 hc => hc.set (by omega) (by omega) (by omega) (by omega) (by omega)) ?_
  simp only [tk', t0', dk', d0']
  repeat (go_big_quiet_step (fail))
  refine wpQuiet_nil ?_
  refine rQuiet_call (f := 31) (args := #[.int .i64 x_part, .int .i64 0, .int .i64 3]) (.bool true) rfl (fun w => by go_simp) (fun L w hD hi hc => (wwithin_any x_part 0 3 w).mono fun e w' ⟨he, hw⟩ => ⟨by rw [he, G4.out], by rw [hw]; exact hc.set (by omega) (by omega) (by omega) (by omega) (by omega)⟩) ?_
  simp only [Act.put, ta', sz', ss']
  refine rQuiet_head 7 (by decide) (by kernel_rfl) (fun i L W h1 h2 hc => hc.set (by omega) (by omega) (by omega) (by omega) (by omega)) ?_
  simp only [tk', t0', dk', d0']
  repeat (go_big_quiet_step (fail))
  refine wpQuiet_nil ?_
  refine rQuiet_value (.slice (some ⟨w1.heap.size, 0, none⟩) 2 2) (fun W => W.alloc (.cells #[.int .i64 x_ep, .int .i64 x_life] 3)) rfl (fun L w hD hi hc => ?_) ?_
  ·have h27 := ready_not hi
   have h28 : L.getD 28 false = false := no_of (fun h => hD.wait (j := 28) (i := 27) (by kernel_rfl) h) h27
   have h36 : L.getD 36 false = false := no_of (fun h => hD.wait (j := 29) (i := 28) (by kernel_rfl) (hD.wait (j := 30) (i := 29) (by kernel_rfl) (hD.wait (j := 31) (i := 30) (by kernel_rfl) (hD.wait (j := 36) (i := 31) (by kernel_rfl) h)))) h28
   have h37 : L.getD 37 false = false := no_of (fun h => hD.wait (j := 37) (i := 36) (by kernel_rfl) h) h36
   have h43 : L.getD 43 false = false := no_of (fun h => hD.wait (j := 38) (i := 37) (by kernel_rfl) (hD.wait (j := 39) (i := 38) (by kernel_rfl) (hD.wait (j := 40) (i := 39) (by kernel_rfl) (hD.wait (j := 43) (i := 40) (by kernel_rfl) h)))) h37
   have hs := hc.s h43
   rw [gcnt, h27, h28, h36, h37] at hs
   have hs : w.heap.size = w1.heap.size := by simpa using hs
   refine ⟨by rw [← hs]; go_simp, ?_⟩
   exact hc.build1 hs h28 h36 h37
  simp only [Act.put, ta', sz', ss']
  refine rQuiet_call (f := 33) (args := #[.int .i64 0, .int .i64 1073741824, .slice (some ⟨w1.heap.size, 0, none⟩) 2 2]) (.bool true) rfl (fun w => by go_simp) (fun L w hD hi hc => ?_) ?_
  ·have h28 := ready_not hi
   have h27 := ready_wait hi (i := 27) (by kernel_rfl)
   have h36 : L.getD 36 false = false := no_of (fun h => hD.wait (j := 29) (i := 28) (by kernel_rfl) (hD.wait (j := 30) (i := 29) (by kernel_rfl) (hD.wait (j := 31) (i := 30) (by kernel_rfl) (hD.wait (j := 36) (i := 31) (by kernel_rfl) h)))) h28
   have h37 : L.getD 37 false = false := no_of (fun h => hD.wait (j := 37) (i := 36) (by kernel_rfl) h) h36
   have h43 : L.getD 43 false = false := no_of (fun h => hD.wait (j := 38) (i := 37) (by kernel_rfl) (hD.wait (j := 39) (i := 38) (by kernel_rfl) (hD.wait (j := 40) (i := 39) (by kernel_rfl) (hD.wait (j := 43) (i := 40) (by kernel_rfl) h)))) h37
   exact (are_sz [x_ep, x_life] (by simp [maxLen]) _ 0 1073741824 w (ints2_cl (hc.c1 h27))).mono fun e w' ⟨he, hb, hz⟩ => ⟨by rw [he, G5.out], hc.are1 hb hz h27 h28 h36 h37 h43⟩
  simp only [Act.put, ta', sz', ss']
  refine rQuiet_head 7 (by decide) (by kernel_rfl) (fun i L W h1 h2 hc => hc.set (by omega) (by omega) (by omega) (by omega) (by omega)) ?_
  simp only [tk', t0', dk', d0']
  repeat (go_big_quiet_step (fail))
  refine wpQuiet_nil ?_
  refine rQuiet_value (.slice (some ⟨w1.heap.size + 3, 0, none⟩) 2 2) (fun W => W.alloc (.cells #[.int .i64 x_off, .int .i64 x_high] 3)) rfl (fun L w hD hi hc => ?_) ?_
  ·have h36 := ready_not hi
   have h28 : L.getD 28 false = true := hD.wait (j := 29) (i := 28) (by kernel_rfl) (hD.wait (j := 30) (i := 29) (by kernel_rfl) (hD.wait (j := 31) (i := 30) (by kernel_rfl) (ready_wait hi (i := 31) (by kernel_rfl))))
   have h27 : L.getD 27 false = true := hD.wait (j := 28) (i := 27) (by kernel_rfl) h28
   have h37 : L.getD 37 false = false := no_of (fun h => hD.wait (j := 37) (i := 36) (by kernel_rfl) h) h36
   have h43 : L.getD 43 false = false := no_of (fun h => hD.wait (j := 38) (i := 37) (by kernel_rfl) (hD.wait (j := 39) (i := 38) (by kernel_rfl) (hD.wait (j := 40) (i := 39) (by kernel_rfl) (hD.wait (j := 43) (i := 40) (by kernel_rfl) h)))) h37
   have hs := hc.s h43
   rw [gcnt, h27, h28, h36, h37] at hs
   have hs : w.heap.size = w1.heap.size + 3 := by simpa using hs
   refine ⟨by rw [← hs]; go_simp, ?_⟩
   exact hc.build2 hs h27 h28 h37
  simp only [Act.put, ta', sz', ss']
  refine rQuiet_call (f := 33) (args := #[.int .i64 (-1), .int .i64 1099511627776, .slice (some ⟨w1.heap.size + 3, 0, none⟩) 2 2]) (.bool false) rfl (fun w => by go_simp) (fun L w hD hi hc => ?_) ?_
  ·have h37 := ready_not hi
   have h36 := ready_wait hi (i := 36) (by kernel_rfl)
   have h28 : L.getD 28 false = true := hD.wait (j := 29) (i := 28) (by kernel_rfl) (hD.wait (j := 30) (i := 29) (by kernel_rfl) (hD.wait (j := 31) (i := 30) (by kernel_rfl) (hD.wait (j := 36) (i := 31) (by kernel_rfl) h36)))
   have h27 : L.getD 27 false = true := hD.wait (j := 28) (i := 27) (by kernel_rfl) h28
   have h43 : L.getD 43 false = false := no_of (fun h => hD.wait (j := 38) (i := 37) (by kernel_rfl) (hD.wait (j := 39) (i := 38) (by kernel_rfl) (hD.wait (j := 40) (i := 39) (by kernel_rfl) (hD.wait (j := 43) (i := 40) (by kernel_rfl) h)))) h37
   exact (are_sz [x_off, x_high] (by simp [maxLen]) _ (-1) 1099511627776 w (ints2_cl (hc.c2 h36))).mono fun e w' ⟨he, hb, hz⟩ => ⟨by rw [he, G6.out], hc.are2 hb hz h27 h28 h36 h37 h43⟩
  simp only [Act.put, ta', sz', ss']
  refine rQuiet_head 3 (by decide) (by kernel_rfl) (fun i L W h1 h2 hc => hc.set (by omega) (by omega) (by omega) (by omega) (by omega)) ?_
  simp only [tk', t0', dk', d0']
  repeat (go_big_quiet_step (fail))
  refine wpQuiet_nil ?_
  refine rQuiet_none (by go_simp) (fun L w hD hi hc => hc.set (by omega) (by omega) (by omega) (by omega) (by omega)) ?_
  simp only [Act.put, ta', sz', ss']
  refine rQuiet_none (by go_simp) (fun L w hD hi hc => hc.set (by omega) (by omega) (by omega) (by omega) (by omega)) ?_
  simp only [Act.put, ta', sz', ss']
  refine rQuiet_none (by go_simp) (fun L w hD hi hc => hc.only (Below.refl _ _)) ?_
  simp only [Act.put, ta', sz', ss']
  refine rQuiet_none (by go_simp) (fun L w hD hi hc => hc.set (by omega) (by omega) (by omega) (by omega) (by omega)) ?_
  simp only [Act.put, ta', sz', ss']
  refine rQuiet_head 2 (by decide) (by kernel_rfl) (fun i L W h1 h2 hc => hc.set (by omega) (by omega) (by omega) (by omega) (by omega)) ?_
  simp only [tk', t0', dk', d0']
  repeat (go_big_quiet_step (fail))
  refine wpQuiet_nil ?_
  intro w9 hw9
  have T4 := hq' hw9.b
  go_wp2
  go_meet
  case rel => exact ⟨rfl, T4.out⟩
 case rest =>
  obtain ⟨rfl, hwz⟩ := hcut
  have BZ := hq' (BW.out _ hwz)
  clear hwz CA
  go_wp2
  go_ret
  exact ⟨rfl, BZ.out⟩
end Go.Proofs.YtjfpbeccpcbpcaaGreatDoor
