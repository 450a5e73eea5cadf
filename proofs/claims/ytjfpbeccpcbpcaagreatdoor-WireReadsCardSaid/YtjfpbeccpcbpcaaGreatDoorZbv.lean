/-
  Wrd: texts of one proof, one behind the other.
  Conditions: none of its own.
-/
import Derived.Test.YtjfpbeccpcbpcaaGreatDoorZbu
set_option linter.unusedVariables false
set_option linter.unusedSimpArgs false
set_option maxHeartbeats 25600000
set_option maxRecDepth 20000
namespace Go.Proofs.YtjfpbeccpcbpcaaGreatDoor
open Go.RowKit
theorem reads_walk (s : List UInt8) (hs : s.length ≤ maxLen) (w : World) (hw : Lw w) :
  Calls Tryz.prog 4 #[.string ⟨s.toArray⟩] w fun e w' => e = .returned (.bool true) ∧ Below w.heap.size w w' := by
 have HAW := hq' (awake_any w hw)
 have HD1 := hq' (fun (W : World) (hW : Below w.heap.size w W) => wdecode_most s hs W (hw.below hW))
 have HD2 := hq' (fun (W : World) (hW : Below w.heap.size w W) => refdec14_any s hs W)
 rw [refM_eq] at HD2
 unfold DecR at HD1 HD2
 generalize (decM s).1.getD Wi.zMsg = m at *
 generalize (decM s).2 = er at *
 clear hs hw
 go_enter Tryz.func4, Tryz.ntmps4
 go_wp2_with fail
 refine HAW.out.mono ?_
 rintro e w1 ⟨rfl, hb⟩
 have B1 := hq' hb
 clear hb HAW
 go_wp2_with fail
 refine (HD1.out _ B1.out).mono ?_
 rintro e w2 ⟨v, rfl, ho, hok, hb⟩
 have M1 : Hid (MsgAt w2 m v) := ho.at
 have BD1 := hq' (bt B1.out hb)
 have MK := hq' hok
 clear ho hb HD1 B1
 obtain ⟨cs, hcs, HCS1, HIL1, HIA1, HON1, HSZ1⟩ := msg_cells m v w2 M1.out
 rw [hcs]
 have HV1 := hq' hcs
 clear hcs
 obtain ⟨w2a, hw2a, CC1, BC1, QC1⟩ := new_row2 w2 (zt0) cs 36
 have HWA1 := hq' hw2a
 have MX1 := hq' (M1.out.kept BC1.out)
 have BX1 := hq' (bt BD1.out BC1.out)
 clear hw2a M1 BD1 HCS1
 go_upto_region 4 with (refine wpList_store_row (by rfl) _ _ _ (by rfl) w2.heap.size cs.toArray (by rfl) (by rfl) 36 _ QC1.out HIA1.out HSZ1.out HON1.out ?_)
 first | rw [HWA1.out] | skip
 clear HWA1 QC1 BC1
 generalize w2.heap.size = p1 at *
 go_wp2_with fail
 refine (HD2.out _ BX1.out).mono ?_
 rintro e w3 ⟨u, rfl, ho, hok, hb⟩
 have M2 : Hid (MsgAt w3 m u) := ho.at
 have BD2 := hq' (bt BX1.out hb)
 have CC1b := hq' (CC1.out.below hb)
 have MX1b := hq' (MX1.out.kept hb)
 clear ho hb HD2 BX1
 obtain ⟨ds, hds, HCS2, HIL2, HIA2, HON2, HSZ2⟩ := msg_cells m u w3 M2.out
 rw [hds]
 have HV2 := hq' hds
 clear hds
 obtain ⟨w3a, hw3a, CC2, BC2, QC2⟩ := new_row2 w3 (zt0) ds 36
 have HWA2 := hq' hw3a
 have MX2 := hq' (M2.out.kept BC2.out)
 have BX2 := hq' (bt BD2.out BC2.out)
 clear hw3a M2 BD2 HCS2
 have CC1c := hq' (CC1b.out.below BC2.out)
 have MX1c := hq' (MX1b.out.kept BC2.out)
 clear CC1b MX1b CC1 MX1
 go_upto_region 5 with (refine wpList_store_row (by rfl) _ _ _ (by rfl) w3.heap.size ds.toArray (by rfl) (by rfl) 36 _ QC2.out HIA2.out HSZ2.out HON2.out ?_)
 first | rw [HWA2.out] | skip
 clear HWA2 QC2 BC2
 generalize w3.heap.size = p2 at *
 have HS := hq' (refsameM_any m m v u w3a MX1c.out MX2.out MK.out MK.out)
 rw [HV1.out, HV2.out, Wi.same_refl] at HS
 have R1 := hq' CC1c.out.range
 have R2 := hq' CC2.out.range
 clear MX1c MX2 HV1 HV2 HSZ1 HSZ2
 have hee : (er == er) = true := by simp
 go_wp2_with (first
  | (refine wpList_load_mid (by rfl) _ _ (by rfl) p1 0 (by rfl) cs _ R1.out Tryz.underlying36 (by rfl) HIL1.out ?_)
  | (refine wpList_load_mid (by rfl) _ _ (by rfl) p2 0 (by rfl) ds _ R2.out Tryz.underlying36 (by rfl) HIL2.out ?_)
  | fail)
 refine HS.out.mono ?_
 rintro e w9 ⟨rfl, hb⟩
 have B9 := hq' (bt BX2.out hb)
 clear hb HS
 go_wp2
 go_ret
 exact ⟨by first | rfl | simp, B9.out⟩
end Go.Proofs.YtjfpbeccpcbpcaaGreatDoor
