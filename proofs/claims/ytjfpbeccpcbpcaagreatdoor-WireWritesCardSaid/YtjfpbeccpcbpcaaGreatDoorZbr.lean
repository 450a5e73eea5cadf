/-
  Wwr: texts of one proof, one behind the other.
  Conditions: none of its own.
-/
import Derived.Test.YtjfpbeccpcbpcaaGreatDoorZbd
import Derived.Test.YtjfpbeccpcbpcaaGreatDoorZbq
set_option linter.unusedVariables false
set_option linter.unusedSimpArgs false
namespace Go.Proofs.YtjfpbeccpcbpcaaGreatDoor
open Go.RowKit
set_option maxRecDepth 20000 in
set_option maxHeartbeats 25600000 in
theorem writes_walk (m n : Wi.Msg) (v u : MsgV) (w : World) (h : MsgAt w m v) (h2 : MsgAt w n u) (ok : MsgOk m) (ok2 : MsgOk n) (hcap : CapOk v.arecs) (hcap2 : CapOk u.arecs) (hw : Lw w) :
  Calls Tryz.prog 3 #[msgV m v, msgV n u] w fun e w' => e = .returned (.bool true) ∧ Below w.heap.size w w' := by
 obtain ⟨ds, hmv2, HCS2, HJL, HJA, HJN, HJZ⟩ := msg_cells n u w h2
 have HGR2 := Lib.hid (fun (W : World) (hW : Below w.heap.size w W) => great_any n u W (h2.kept hW) ok2)
 have HSM := Lib.hid (fun (W : World) (hW : Below w.heap.size w W) => wsame_any m n v u W (h.kept hW) (h2.kept hW) ok ok2)
 have HRS := Lib.hid (fun (W : World) (hW : Below w.heap.size w W) => refsameM_any m n v u W (h.kept hW) (h2.kept hW) ok ok2)
 rw [hmv2] at HGR2 HSM HRS
 rw [hmv2]
 clear hmv2 h2 HCS2 HJA HJN HJZ
 obtain ⟨cs, hmv, HCS, HIL, HIA, HON, HSZ⟩ := msg_cells m v w h
 have HGR := Lib.hid (fun (W : World) (hW : Below w.heap.size w W) => great_any m v W (h.kept hW) ok)
 have HEN := Lib.hid (fun (W : World) (hW : Below w.heap.size w W) => wencode_any m v W (h.kept hW) ok hcap (hw.below hW))
 have HGD := Lib.hid (fun (W : World) (hW : Below w.heap.size w W) => wgood_any m v W (h.kept hW) ok hcap (hw.below hW))
 have HAW := Lib.hid (fun (W : World) (hW : Below w.heap.size w W) => awake_any W (hw.below hW))
 have HMC : Hid (msgC m v = cs) := HCS.out.symm
 have HRG := Lib.hid (fun (W : World) (hW : Below w.heap.size w W) => refgood14_any m v W (h.kept hW) ok hcap cs HMC.out)
 have HM := Lib.hid h
 have HO := Lib.hid ok
 have HCP := Lib.hid hcap
 rw [hmv] at HGR HEN HGD HSM HRS
 rw [hmv]
 clear hmv h hw HCS HIA HON HSZ ok hcap ok2 hcap2
 generalize Wi.same m n = sm at *
 go_enter Tryz.func3, Tryz.ntmps3
 obtain ⟨w1, hw1, C1, D1, B1⟩ := twoBox (w := w) cs ds 36
 have HW1 := Lib.hid hw1
 clear hw1
 go_upto_region 1 with (fail)
 first | rw [HW1.out] | skip
 clear HW1
 obtain ⟨b1, hb1⟩ : ∃ b1, b1 = w.heap.size := ⟨_, rfl⟩
 rw [← hb1] at C1 D1
 first | rw [← hb1] | skip
 clear hb1
 go_wp2_with fail
 refine (HAW.out _ B1.out).mono ?_
 rintro e w2 ⟨rfl, hb⟩
 have C2 := Lib.hid (C1.out.below hb)
 have D2 := Lib.hid (D1.out.below hb)
 have B2 := Lib.hid (bt B1.out hb)
 clear hb C1 D1 B1 HAW
 go_upto_region 3 with (fail)
 go_cut [16] (fun t wz => ∃ b : Bool, t = .bool b ∧ Cl wz b1 cs 36 ∧ Cl wz (b1 + 1) ds 36 ∧ Below w.heap.size w wz)
 case first =>
  have R2 := Lib.hid C2.out.range
  go_wp2_with (refine wpList_load_mid (by rfl) _ _ (by rfl) b1 0 (by rfl) cs _ R2.out Tryz.underlying36 (by rfl) HIL.out ?_)
  refine (HGR.out _ B2.out).mono ?_
  rintro e w3 ⟨gb, rfl, hb⟩
  have C3 := Lib.hid (C2.out.below hb)
  have D3 := Lib.hid (D2.out.below hb)
  have B3 := Lib.hid (bt B2.out hb)
  clear hb C2 D2 B2 HGR R2
  cases gb with
  | true =>
   go_wp2
   go_meet
   case rel => exact ⟨true, rfl, C3.out, D3.out, B3.out⟩
  | false =>
   have R3 := Lib.hid D3.out.range
   go_wp2_with (refine wpList_load_yes (by rfl) _ _ (by rfl) (b1 + 1) 0 (by rfl) ds _ R3.out Tryz.underlying36 (by rfl) HJL.out ?_)
   refine (HGR2.out _ B3.out).mono ?_
   rintro e w4 ⟨gb, rfl, hb⟩
   have C4 := Lib.hid (C3.out.below hb)
   have D4 := Lib.hid (D3.out.below hb)
   have B4 := Lib.hid (bt B3.out hb)
   clear hb C3 D3 B3 HGR2 R3
   go_wp2
   go_meet
   case rel => exact ⟨gb, rfl, C4.out, D4.out, B4.out⟩
 case rest =>
  obtain ⟨gb, rfl, hC, hD, hB⟩ := hcut
  have C3 := Lib.hid hC
  have D3 := Lib.hid hD
  have B3 := Lib.hid hB
  clear hC hD hB C2 D2 B2 HGR HGR2
  generalize wc = w3 at *
  cases gb with
  | true =>
   go_wp2
   go_ret
   exact ⟨rfl, B3.out⟩
  | false =>
   cases hg : Wi.good m with
   | false =>
    rw [hg] at HGD HRG
    have HREN := Lib.hid (fun (W : World) (hW : Below w.heap.size w W) => refencode14_no m v W (HM.out.kept hW) HO.out HCP.out cs HMC.out hg)
    rw [wencode_no' hg] at HEN
    skip
    clear hg HM HO HCP HMC
    have R3 := Lib.hid C3.out.range
    go_wp2_with (refine wpList_load_mid (by rfl) _ _ (by rfl) b1 0 (by rfl) cs _ R3.out Tryz.underlying36 (by rfl) HIL.out ?_)
    refine (HEN.out _ B3.out).mono ?_
    rintro e w4 ⟨rfl, hb⟩
    have C4 := Lib.hid (C3.out.below hb)
    have D4 := Lib.hid (D3.out.below hb)
    have B4 := Lib.hid (bt B3.out hb)
    clear hb C3 D3 B3 HEN R3
    have R4 := Lib.hid C4.out.range
    go_wp2_with (refine wpList_load_mid (by rfl) _ _ (by rfl) b1 0 (by rfl) cs _ R4.out Tryz.underlying36 (by rfl) HIL.out ?_)
    refine (HREN.out _ B4.out).mono ?_
    rintro e w5 ⟨rfl, hb⟩
    have C5 := Lib.hid (C4.out.below hb)
    have D5 := Lib.hid (D4.out.below hb)
    have B5 := Lib.hid (bt B4.out hb)
    clear hb C4 D4 B4 HREN R4
    have M1 := Lib.hid (below_class (w := w5) (fun W hW => HGD.out W (bt B5.out hW)))
    have M2 := Lib.hid (below_class (w := w5) (fun W hW => HRG.out W (bt B5.out hW)))
    have M3 := Lib.hid (below_class (w := w5) (fun W hW => HSM.out W (bt B5.out hW)))
    have M4 := Lib.hid (below_class (w := w5) (fun W hW => HRS.out W (bt B5.out hW)))
    clear HGD HRG HSM HRS
    go_upto_region 7 with (fail)
    refine wp_region_below (by kernel_rfl) (by kernel_rfl) ?_
    repeat (go_big_quiet_step (fail))
    go_big_quiet_want
    refine quiet_msg rfl rfl C5.out HIL.out ?_
    go_big_quiet_on
    simp only [Act.put, List.setIfInBounds_toArray, List.set_cons_zero, List.set_cons_succ]
    repeat (go_big_quiet_step (fail))
    go_big_quiet_step ((exact M1.out _))
    repeat (go_big_quiet_step (fail))
    go_big_quiet_want
    refine quiet_msg rfl rfl C5.out HIL.out ?_
    go_big_quiet_on
    simp only [Act.put, List.setIfInBounds_toArray, List.set_cons_zero, List.set_cons_succ]
    repeat (go_big_quiet_step (fail))
    go_big_quiet_step ((exact M2.out _))
    repeat (go_big_quiet_step (fail))
    go_big_quiet_want
    refine quiet_msg rfl rfl C5.out HIL.out ?_
    go_big_quiet_on
    simp only [Act.put, List.setIfInBounds_toArray, List.set_cons_zero, List.set_cons_succ]
    repeat (go_big_quiet_step (fail))
    go_big_quiet_want
    refine quiet_msg rfl rfl D5.out HJL.out ?_
    go_big_quiet_on
    simp only [Act.put, List.setIfInBounds_toArray, List.set_cons_zero, List.set_cons_succ]
    repeat (go_big_quiet_step (fail))
    go_big_quiet_step ((exact M3.out _))
    repeat (go_big_quiet_step (fail))
    go_big_quiet_want
    refine quiet_msg rfl rfl C5.out HIL.out ?_
    go_big_quiet_on
    simp only [Act.put, List.setIfInBounds_toArray, List.set_cons_zero, List.set_cons_succ]
    repeat (go_big_quiet_step (fail))
    go_big_quiet_want
    refine quiet_msg rfl rfl D5.out HJL.out ?_
    go_big_quiet_on
    simp only [Act.put, List.setIfInBounds_toArray, List.set_cons_zero, List.set_cons_succ]
    repeat (go_big_quiet_step (fail))
    go_big_quiet_step ((exact M4.out _))
    repeat (go_big_quiet_step (fail))
    refine wpQuiet_nil ?_
    intro w9 h9
    obtain ⟨⟨w9, hb9⟩, rfl⟩ := h9
    have B9 := Lib.hid (bt B5.out hb9)
    clear hb9
    go_wp2
    go_ret
    exact ⟨by first | rfl | simp, B9.out⟩
   | true =>
    rw [hg] at HGD HRG
    have HREN := Lib.hid (fun (W : World) (hW : Below w.heap.size w W) => refencode14_yes m v W (HM.out.kept hW) HO.out HCP.out cs HMC.out hg)
    rw [wencode_yes' hg] at HEN
    generalize Frm.put (Wi.enc m) = S at *
    clear hg HM HO HCP HMC
    have R3 := Lib.hid C3.out.range
    go_wp2_with (refine wpList_load_mid (by rfl) _ _ (by rfl) b1 0 (by rfl) cs _ R3.out Tryz.underlying36 (by rfl) HIL.out ?_)
    refine (HEN.out _ B3.out).mono ?_
    rintro e w4 ⟨rfl, hb⟩
    have C4 := Lib.hid (C3.out.below hb)
    have D4 := Lib.hid (D3.out.below hb)
    have B4 := Lib.hid (bt B3.out hb)
    clear hb C3 D3 B3 HEN R3
    have R4 := Lib.hid C4.out.range
    go_wp2_with (refine wpList_load_mid (by rfl) _ _ (by rfl) b1 0 (by rfl) cs _ R4.out Tryz.underlying36 (by rfl) HIL.out ?_)
    refine (HREN.out _ B4.out).mono ?_
    rintro e w5 ⟨rfl, hb⟩
    have C5 := Lib.hid (C4.out.below hb)
    have D5 := Lib.hid (D4.out.below hb)
    have B5 := Lib.hid (bt B4.out hb)
    clear hb C4 D4 B4 HREN R4
    have M1 := Lib.hid (below_class (w := w5) (fun W hW => HGD.out W (bt B5.out hW)))
    have M2 := Lib.hid (below_class (w := w5) (fun W hW => HRG.out W (bt B5.out hW)))
    have M3 := Lib.hid (below_class (w := w5) (fun W hW => HSM.out W (bt B5.out hW)))
    have M4 := Lib.hid (below_class (w := w5) (fun W hW => HRS.out W (bt B5.out hW)))
    clear HGD HRG HSM HRS
    go_upto_region 7 with (fail)
    refine wp_region_below (by kernel_rfl) (by kernel_rfl) ?_
    repeat (go_big_quiet_step (fail))
    go_big_quiet_want
    refine quiet_msg rfl rfl C5.out HIL.out ?_
    go_big_quiet_on
    simp only [Act.put, List.setIfInBounds_toArray, List.set_cons_zero, List.set_cons_succ]
    repeat (go_big_quiet_step (fail))
    go_big_quiet_step ((exact M1.out _))
    repeat (go_big_quiet_step (fail))
    go_big_quiet_want
    refine quiet_msg rfl rfl C5.out HIL.out ?_
    go_big_quiet_on
    simp only [Act.put, List.setIfInBounds_toArray, List.set_cons_zero, List.set_cons_succ]
    repeat (go_big_quiet_step (fail))
    go_big_quiet_step ((exact M2.out _))
    repeat (go_big_quiet_step (fail))
    go_big_quiet_want
    refine quiet_msg rfl rfl C5.out HIL.out ?_
    go_big_quiet_on
    simp only [Act.put, List.setIfInBounds_toArray, List.set_cons_zero, List.set_cons_succ]
    repeat (go_big_quiet_step (fail))
    go_big_quiet_want
    refine quiet_msg rfl rfl D5.out HJL.out ?_
    go_big_quiet_on
    simp only [Act.put, List.setIfInBounds_toArray, List.set_cons_zero, List.set_cons_succ]
    repeat (go_big_quiet_step (fail))
    go_big_quiet_step ((exact M3.out _))
    repeat (go_big_quiet_step (fail))
    go_big_quiet_want
    refine quiet_msg rfl rfl C5.out HIL.out ?_
    go_big_quiet_on
    simp only [Act.put, List.setIfInBounds_toArray, List.set_cons_zero, List.set_cons_succ]
    repeat (go_big_quiet_step (fail))
    go_big_quiet_want
    refine quiet_msg rfl rfl D5.out HJL.out ?_
    go_big_quiet_on
    simp only [Act.put, List.setIfInBounds_toArray, List.set_cons_zero, List.set_cons_succ]
    repeat (go_big_quiet_step (fail))
    go_big_quiet_step ((exact M4.out _))
    repeat (go_big_quiet_step (fail))
    refine wpQuiet_nil ?_
    intro w9 h9
    obtain ⟨⟨w9, hb9⟩, rfl⟩ := h9
    have B9 := Lib.hid (bt B5.out hb9)
    clear hb9
    go_wp2
    go_ret
    exact ⟨by first | rfl | simp, B9.out⟩
end Go.Proofs.YtjfpbeccpcbpcaaGreatDoor
