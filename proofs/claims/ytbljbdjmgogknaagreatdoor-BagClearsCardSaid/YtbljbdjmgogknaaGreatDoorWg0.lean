/-
  Wire: Good, where the kind is none; Encode, where Good says no (printed by wip/gen/mkwzero.py).
  Conditions: none.
-/
import Derived.Test.YtbljbdjmgogknaaGreatDoorWg3
set_option linter.unusedVariables false
set_option linter.unusedSimpArgs false
namespace Go.Proofs.YtbljbdjmgogknaaGreatDoor
open Go.RowKit

set_option maxRecDepth 20000 in
set_option maxHeartbeats 12800000 in
theorem good_none (cs : List Value) (x : Int) (hx : cs[0]? = some (.int .i64 x)) (hk : Wi.inB x 1 9 = false) (w : World) :
    Calls Tryz.prog 44 #[.agg cs.toArray] w fun e w' => e = .returned (.bool false) ∧ Below w.heap.size w w' := by
  have HK := Lib.hid hk
  have HX := Lib.hid hx
  clear hk hx
  go_enter Tryz.func44, Tryz.ntmps44
  obtain ⟨w1, hw1, CA, B1⟩ := oneBox (w := w) cs 44
  have HW1 := Lib.hid hw1
  clear hw1
  go_upto_region 1 with (fail)
  first | rw [HW1.out] | skip
  clear HW1
  generalize w.heap.size = pa at CA ⊢
  go_cut [51] (fun t51 wz => t51 = .bool true ∧ wz = w1.drew)
  case first =>
    have m0 : ∀ y : AnyOf (fun (L : Array Bool) (W : World) => W = w1.drew), y.1.cell? ⟨pa, 0, none⟩ = some (.int .i64 x) := fun y => by
      obtain ⟨L, hL⟩ := y.2
      rw [show y.1 = w1.drew from hL]
      exact (CA.out.cell 0).trans HX.out
    have hne : Nonempty (AnyOf (fun (L : Array Bool) (W : World) => W = w1.drew)) := ⟨⟨_, Array.replicate 47 false, rfl⟩⟩
    go_wp2
    refine wp_region_ranks (fun (L : Array Bool) (W : World) => W = w1.drew) _ (by kernel_rfl) (by kernel_rfl) rfl rfl ?_
    refine rQuiet_head 2 (by decide) (by kernel_rfl) (fun i L W h1 h2 hc => hc) ?_
    simp only [List.take_succ_cons, List.take_zero, List.drop_succ_cons, List.drop_zero]
    repeat (go_big_quiet_step (fail))
    refine wpQuiet_nil ?_
    refine rQuiet_call (f := 68) (args := #[.int .i64 x, .int .i64 1, .int .i64 9]) (.bool false) rfl (fun w => by go_simp) (fun L w hD hi hc => (wwithin_any x 1 9 w).mono fun e w' ⟨he, hw⟩ => ⟨by rw [he, HK.out], by rw [hw]; exact hc⟩) ?_
    simp only [Act.put, List.setIfInBounds_toArray, List.set_cons_zero, List.set_cons_succ]
    refine rQuiet_head 4 (by decide) (by kernel_rfl) (fun i L W h1 h2 hc => hc) ?_
    simp only [List.take_succ_cons, List.take_zero, List.drop_succ_cons, List.drop_zero]
    repeat (go_big_quiet_step (fail))
    refine wpQuiet_nil ?_
    refine rQuiet_none (by go_simp) (fun L w hD hi hc => hc) ?_
    simp only [Act.put, List.setIfInBounds_toArray, List.set_cons_zero, List.set_cons_succ]
    refine rQuiet_head 5 (by decide) (by kernel_rfl) (fun i L W h1 h2 hc => hc) ?_
    simp only [List.take_succ_cons, List.take_zero, List.drop_succ_cons, List.drop_zero]
    repeat (go_big_quiet_step (fail))
    refine wpQuiet_nil ?_
    refine rQuiet_none (by go_simp) (fun L w hD hi hc => hc) ?_
    simp only [Act.put, List.setIfInBounds_toArray, List.set_cons_zero, List.set_cons_succ]
    refine rQuiet_head 5 (by decide) (by kernel_rfl) (fun i L W h1 h2 hc => hc) ?_
    simp only [List.take_succ_cons, List.take_zero, List.drop_succ_cons, List.drop_zero]
    repeat (go_big_quiet_step (fail))
    refine wpQuiet_nil ?_
    refine rQuiet_none (by go_simp) (fun L w hD hi hc => hc) ?_
    simp only [Act.put, List.setIfInBounds_toArray, List.set_cons_zero, List.set_cons_succ]
    refine rQuiet_head 7 (by decide) (by kernel_rfl) (fun i L W h1 h2 hc => hc) ?_
    simp only [List.take_succ_cons, List.take_zero, List.drop_succ_cons, List.drop_zero]
    repeat (go_big_quiet_step (fail))
    refine wpQuiet_nil ?_
    refine rQuiet_none (by go_simp) (fun L w hD hi hc => hc) ?_
    simp only [Act.put, List.setIfInBounds_toArray, List.set_cons_zero, List.set_cons_succ]
    refine rQuiet_none (by go_simp) (fun L w hD hi hc => hc) ?_
    simp only [Act.put, List.setIfInBounds_toArray, List.set_cons_zero, List.set_cons_succ]
    refine rQuiet_head 7 (by decide) (by kernel_rfl) (fun i L W h1 h2 hc => hc) ?_
    simp only [List.take_succ_cons, List.take_zero, List.drop_succ_cons, List.drop_zero]
    repeat (go_big_quiet_step (fail))
    refine wpQuiet_nil ?_
    refine rQuiet_none (by go_simp) (fun L w hD hi hc => hc) ?_
    simp only [Act.put, List.setIfInBounds_toArray, List.set_cons_zero, List.set_cons_succ]
    refine rQuiet_none (by go_simp) (fun L w hD hi hc => hc) ?_
    simp only [Act.put, List.setIfInBounds_toArray, List.set_cons_zero, List.set_cons_succ]
    refine rQuiet_head 3 (by decide) (by kernel_rfl) (fun i L W h1 h2 hc => hc) ?_
    simp only [List.take_succ_cons, List.take_zero, List.drop_succ_cons, List.drop_zero]
    repeat (go_big_quiet_step (fail))
    refine wpQuiet_nil ?_
    refine rQuiet_none (by go_simp) (fun L w hD hi hc => hc) ?_
    simp only [Act.put, List.setIfInBounds_toArray, List.set_cons_zero, List.set_cons_succ]
    refine rQuiet_none (by go_simp) (fun L w hD hi hc => hc) ?_
    simp only [Act.put, List.setIfInBounds_toArray, List.set_cons_zero, List.set_cons_succ]
    refine rQuiet_none (by go_simp) (fun L w hD hi hc => hc) ?_
    simp only [Act.put, List.setIfInBounds_toArray, List.set_cons_zero, List.set_cons_succ]
    refine rQuiet_none (by go_simp) (fun L w hD hi hc => hc) ?_
    simp only [Act.put, List.setIfInBounds_toArray, List.set_cons_zero, List.set_cons_succ]
    refine rQuiet_head 2 (by decide) (by kernel_rfl) (fun i L W h1 h2 hc => hc) ?_
    simp only [List.take_succ_cons, List.take_zero, List.drop_succ_cons, List.drop_zero]
    repeat (go_big_quiet_step (fail))
    refine wpQuiet_nil ?_
    intro w9 hw9
    have T4 := Lib.hid hw9
    go_wp2
    go_meet
    case rel => exact ⟨rfl, T4.out⟩
  case rest =>
    obtain ⟨rfl, hwz⟩ := hcut
    have BZ : Hid (Below w.heap.size w wc) := by rw [hwz]; exact B1.out.drew
    clear hwz CA
    go_wp2
    go_ret
    exact ⟨rfl, BZ.out⟩
set_option maxRecDepth 20000 in
set_option maxHeartbeats 3200000 in
theorem encode_no (cs : List Value) (hlen : cs.length = 38) (w : World) (hg : ∀ W, Below w.heap.size w W → Calls Tryz.prog 44 #[.agg cs.toArray] W fun e w' => e = .returned (.bool false) ∧ Below W.heap.size W w') :
    Calls Tryz.prog 23 #[.agg cs.toArray] w fun e w' => e = .returned (.tuple #[.string ⟨#[]⟩, .int .i64 1]) ∧ Below w.heap.size w w' := by
  have HG := Lib.hid hg
  have HIL : Hid ((Tryz.prog.info? 44).map (·.size) = some cs.length) := by rw [Hid, hlen]; kernel_rfl
  clear hg hlen
  go_enter Tryz.func23, Tryz.ntmps23
  obtain ⟨w1, hw1, CA, B1⟩ := oneBox (w := w) cs 44
  have HW1 := Lib.hid hw1
  clear hw1
  go_upto_region 1 with (fail)
  first | rw [HW1.out] | skip
  clear HW1
  have R1 := Lib.hid CA.out.range
  have HG1 := Lib.hid (HG.out _ B1.out)
  obtain ⟨pa, hpa⟩ : ∃ pa, pa = w.heap.size := ⟨_, rfl⟩
  rw [← hpa] at R1
  first | rw [← hpa] | skip
  have HPA := Lib.hid hpa
  clear hpa CA
  go_wp2_with (refine wpList_load_mid (by rfl) _ _ (by rfl) pa 0 (by rfl) cs _ R1.out Tryz.underlying44 (by rfl) HIL.out ?_)
  refine HG1.out.mono ?_
  rintro e w2 ⟨rfl, hb2⟩
  have B2 := Lib.hid (bt B1.out hb2)
  clear hb2
  go_wp2
  go_ret2
  exact ⟨rfl, B2.out⟩

end Go.Proofs.YtbljbdjmgogknaaGreatDoor
