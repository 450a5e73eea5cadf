/-
  Wft: texts of one proof, one behind the other.
  Conditions: none of its own.
-/
import Derived.Test.YtjfpbeccpcbpcaaGreatDoorZbw
import Derived.Test.YtjfpbeccpcbpcaaGreatDoorZbz
set_option linter.unusedVariables false
set_option linter.unusedSimpArgs false
namespace Go.Proofs.YtjfpbeccpcbpcaaGreatDoor
open Go.RowKit
theorem strs_one {w : World} {B : Nat} {v : Value} {x : List UInt8} (h : FStrs w B v [x]) : ∃ g off cap, v = .slice (some ⟨g, off, none⟩) 1 cap ∧ w.cell? ⟨g, off, none⟩ = some (.string ⟨x.toArray⟩) := by
  obtain ⟨g, cap, e, hc⟩ := own_slice h Nat.one_pos
  exact ⟨g, 0, cap, e, by simpa [Addr.add] using hc 0 _ rfl⟩
set_option maxRecDepth 20000 in
set_option maxHeartbeats 6400000 in
theorem fits_walk (m : Wi.Msg) (v : MsgV) (w : World) (h : MsgAt w m v) (ok : MsgOk m) (hcap : CapOk v.arecs) (hw : Lw w) :
    Calls Tryz.prog 8 #[msgV m v] w fun e w' => e = .returned (.bool true) ∧ Below w.heap.size w w' := by
  obtain ⟨cs, hmv, HCS, HIL, HIA, HON, HSZ⟩ := msg_cells m v w h
  have HGR := Lib.hid (fun (W : World) (hW : Below w.heap.size w W) => great_any m v W (h.kept hW) ok)
  have HEN := Lib.hid (fun (W : World) (hW : Below w.heap.size w W) => wencode_any m v W (h.kept hW) ok hcap (hw.below hW))
  have HGD := Lib.hid (fun (W : World) (hW : Below w.heap.size w W) => wgood_any m v W (h.kept hW) ok hcap (hw.below hW))
  have HAW := Lib.hid (fun (W : World) (hW : Below w.heap.size w W) => awake_any W (hw.below hW))
  have HLW : Hid (∀ W, Below w.heap.size w W → Lw W) := fun W hW => hw.below hW
  rw [hmv] at HGR HEN HGD
  rw [hmv]
  clear hmv h hw
  go_enter Tryz.func8, Tryz.ntmps8
  obtain ⟨w1, hw1, C1, B1⟩ := oneBox (w := w) cs 36
  have HW1 := Lib.hid hw1
  clear hw1
  go_upto_region 1 with (fail)
  first | rw [HW1.out] | skip
  clear HW1
  obtain ⟨b1, hb1⟩ : ∃ b1, b1 = w.heap.size := ⟨_, rfl⟩
  rw [← hb1] at C1
  first | rw [← hb1] | skip
  clear hb1
  go_wp2_with fail
  refine (HAW.out _ B1.out).mono ?_
  rintro e w2 ⟨rfl, hb⟩
  have C2 := Lib.hid (C1.out.below hb)
  have B2 := Lib.hid (bt B1.out hb)
  clear hb C1 B1 HAW
  have R2 := Lib.hid C2.out.range
  go_wp2_with (refine wpList_load_mid (by rfl) _ _ (by rfl) b1 0 (by rfl) cs _ R2.out Tryz.underlying36 (by rfl) HIL.out ?_)
  refine (HGR.out _ B2.out).mono ?_
  rintro e w3 ⟨gb, rfl, hb⟩
  have C3 := Lib.hid (C2.out.below hb)
  have B3 := Lib.hid (bt B2.out hb)
  clear hb C2 B2 HGR R2
  cases gb with
  | true =>
    go_wp2
    go_ret
    exact ⟨rfl, B3.out⟩
  | false =>
    have R3 := Lib.hid C3.out.range
    go_wp2_with (refine wpList_load_mid (by rfl) _ _ (by rfl) b1 0 (by rfl) cs _ R3.out Tryz.underlying36 (by rfl) HIL.out ?_)
    refine (HEN.out _ B3.out).mono ?_
    rintro e w4 ⟨rfl, hb⟩
    have C4 := Lib.hid (C3.out.below hb)
    have B4 := Lib.hid (bt B3.out hb)
    clear hb C3 B3 HEN R3
    have HG4 := Lib.hid (HGD.out _ B4.out)
    have R4 := Lib.hid C4.out.range
    cases hg : Wi.good m with
    | false =>
      rw [hg] at HG4
      rw [wencode_no' hg]
      go_wp2_with (refine wpList_load_mid (by rfl) _ _ (by rfl) b1 0 (by rfl) cs _ R4.out Tryz.underlying36 (by rfl) HIL.out ?_)
      refine HG4.out.mono ?_
      rintro e w5 ⟨rfl, hb⟩
      have B5 := Lib.hid (bt B4.out hb)
      clear hb
      go_wp2
      go_ret
      exact ⟨rfl, B5.out⟩
    | true =>
      rw [hg] at HG4
      rw [wencode_yes' hg]
      have hel := Wi.enc_le hg
      have hpl := Frm.put_length (Wi.enc m)
      have HSC := Lib.hid (fun (W : World) => scan_any (Frm.put (Wi.enc m)) W (by omega))
      unfold ScanPost at HSC
      rw [wire_fits hg] at HSC
      have henc := enc_eq m
      generalize Frm.put (Wi.enc m) = S at *
      generalize (Wi.fieldsL m).flatten ++ [101] = tl at *
      generalize Wi.enc m = en at *
      subst henc
      go_wp2_with (refine wpList_load_mid (by rfl) _ _ (by rfl) b1 0 (by rfl) cs _ R4.out Tryz.underlying36 (by rfl) HIL.out ?_)
      refine HG4.out.mono ?_
      rintro e w5 ⟨rfl, hb⟩
      have B5 := Lib.hid (bt B4.out hb)
      clear hb C4 B4 R4 HG4
      go_wp2_with fail
      refine (HSC.out _).mono ?_
      rintro e w6 ⟨sv, rfl, hst, hb⟩
      have B6 := Lib.hid (bt B5.out hb)
      have hrow := strs_one hst
      obtain ⟨g, off, cap, hsv, hc0⟩ := hrow
      subst hsv
      clear hst hb
      simp only [List.length_cons] at hel hpl
      have HPL := Lib.hid hpl
      clear hpl
      have heli : ((tl.length : Nat) : Int) + 1 ≤ 16384 := by omega
      go_wp2
      go_ret
      exact ⟨rfl, B6.out⟩
end Go.Proofs.YtjfpbeccpcbpcaaGreatDoor
