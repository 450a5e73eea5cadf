/-
  Wbk: texts of one proof, one behind the other.
  Conditions: none of its own.
-/
import Derived.Test.YtjfpbeccpcbpcaaGreatDoorZbw
import Derived.BigQuiet
set_option linter.unusedVariables false
set_option linter.unusedSimpArgs false
namespace Go.Proofs.YtjfpbeccpcbpcaaGreatDoor
open Go.RowKit
set_option maxRecDepth 20000 in
set_option maxHeartbeats 25600000 in
theorem back_walk (m n : Wi.Msg) (v u : MsgV) (more : List UInt8) (w : World) (h : MsgAt w m v) (h2 : MsgAt w n u) (ok : MsgOk m) (ok2 : MsgOk n) (hcap : CapOk v.arecs) (hcap2 : CapOk u.arecs) (hml : more.length ≤ maxLen) (hw : Lw w) :
    Calls Tryz.prog 5 #[msgV m v, msgV n u, .string ⟨more.toArray⟩] w fun e w' => e = .returned (.bool true) ∧ Below w.heap.size w w' := by
  obtain ⟨ds, hmv2, HCS2, HJL, HJA, HJN, HJZ⟩ := msg_cells n u w h2
  have HGR2 := Lib.hid (fun (W : World) (hW : Below w.heap.size w W) => great_any n u W (h2.kept hW) ok2)
  have HEN2 := Lib.hid (fun (W : World) (hW : Below w.heap.size w W) => wencode_any n u W (h2.kept hW) ok2 hcap2 (hw.below hW))
  have HSM2 := Lib.hid (fun (W : World) (hW : Below w.heap.size w W) => wsame_any m n v u W (h.kept hW) (h2.kept hW) ok ok2)
  have HSM1 := Lib.hid (fun (W : World) (hW : Below w.heap.size w W) (v3 : MsgV) (h3 : MsgAt W m v3) => wsame_any m m v3 v W h3 (h.kept hW) ok ok)
  rw [hmv2] at HGR2 HEN2 HSM2
  rw [hmv2]
  clear hmv2 h2
  obtain ⟨cs, hmv, HCS, HIL, HIA, HON, HSZ⟩ := msg_cells m v w h
  have HGR := Lib.hid (fun (W : World) (hW : Below w.heap.size w W) => great_any m v W (h.kept hW) ok)
  have HEN := Lib.hid (fun (W : World) (hW : Below w.heap.size w W) => wencode_any m v W (h.kept hW) ok hcap (hw.below hW))
  have HGD := Lib.hid (fun (W : World) (hW : Below w.heap.size w W) => wgood_any m v W (h.kept hW) ok hcap (hw.below hW))
  have HAW := Lib.hid (fun (W : World) (hW : Below w.heap.size w W) => awake_any W (hw.below hW))
  have HLW : Hid (∀ W, Below w.heap.size w W → Lw W) := fun W hW => hw.below hW
  rw [hmv] at HGR HEN HGD HSM2 HSM1
  rw [Wi.same_refl] at HSM1
  rw [hmv]
  clear hmv h hw
  unfold maxLen at hml
  go_enter Tryz.func5, Tryz.ntmps5
  obtain ⟨w1, hw1, C1, D1, B1⟩ := twoBox (w := w) cs ds 36
  have HW1 := Lib.hid hw1
  clear hw1
  go_upto_region 1 with (fail)
  first | rw [HW1.out] | skip
  clear HW1
  obtain ⟨b1, hb1⟩ : ∃ b1, b1 = w.heap.size := ⟨_, rfl⟩
  rw [← hb1] at C1 D1
  first | rw [← hb1] | skip
  clear hb1
  go_wp2_with fail
  refine (HAW.out _ B1.out).mono ?_
  rintro e w2 ⟨rfl, hb⟩
  have C2 := Lib.hid (C1.out.below hb)
  have D2 := Lib.hid (D1.out.below hb)
  have B2 := Lib.hid (bt B1.out hb)
  clear hb C1 D1 B1 HAW
  go_upto_region 3 with (fail)
  go_cut [27] (fun t wz => ∃ b : Bool, t = .bool b ∧ (b = false → more.length ≤ 4096) ∧ Cl wz b1 cs 36 ∧ Cl wz (b1 + 1) ds 36 ∧ Below w.heap.size w wz)
  case first =>
    have R2 := Lib.hid C2.out.range
    go_wp2_with (refine wpList_load_mid (by rfl) _ _ (by rfl) b1 0 (by rfl) cs _ R2.out Tryz.underlying36 (by rfl) HIL.out ?_)
    refine (HGR.out _ B2.out).mono ?_
    rintro e w3 ⟨gb, rfl, hb⟩
    have C3 := Lib.hid (C2.out.below hb)
    have D3 := Lib.hid (D2.out.below hb)
    have B3 := Lib.hid (bt B2.out hb)
    clear hb C2 D2 B2 HGR R2
    cases gb with
    | true =>
      go_wp2
      go_meet
      case rel => exact ⟨true, rfl, (fun e => by cases e), C3.out, D3.out, B3.out⟩
    | false =>
      have R3 := Lib.hid D3.out.range
      go_wp2_with (refine wpList_load_yes (by rfl) _ _ (by rfl) (b1 + 1) 0 (by rfl) ds _ R3.out Tryz.underlying36 (by rfl) HJL.out ?_)
      refine (HGR2.out _ B3.out).mono ?_
      rintro e w4 ⟨gb, rfl, hb⟩
      have C4 := Lib.hid (C3.out.below hb)
      have D4 := Lib.hid (D3.out.below hb)
      have B4 := Lib.hid (bt B3.out hb)
      clear hb C3 D3 B3 HGR2 R3
      cases gb with
      | true =>
        go_wp2
        go_meet
        case rel => exact ⟨true, rfl, (fun e => by cases e), C4.out, D4.out, B4.out⟩
      | false =>
        by_cases hlo : 4096 < more.length
        · have hloi : (4096 : Int) < (more.length : Int) := by omega
          go_wp2
          go_meet
          case rel => exact ⟨true, by first | rfl | simp [hloi], (fun e => by cases e), C4.out, D4.out, B4.out⟩
        · have hloi : ¬ (4096 : Int) < (more.length : Int) := by omega
          have hlon : more.length ≤ 4096 := by omega
          go_wp2
          go_meet
          case rel => exact ⟨false, by first | rfl | simp [hloi], (fun e => hlon), C4.out, D4.out, B4.out⟩
  case rest =>
    obtain ⟨gb, rfl, hlo, hC, hD, hB⟩ := hcut
    have C3 := Lib.hid hC
    have D3 := Lib.hid hD
    have B3 := Lib.hid hB
    clear hC hD hB C2 D2 B2
    generalize wc = w3 at *
    cases gb with
    | true =>
      go_wp2
      go_ret
      exact ⟨rfl, B3.out⟩
    | false =>
      have hlo2 := hlo rfl
      clear hlo
      have R3 := Lib.hid C3.out.range
      go_wp2_with (refine wpList_load_mid (by rfl) _ _ (by rfl) b1 0 (by rfl) cs _ R3.out Tryz.underlying36 (by rfl) HIL.out ?_)
      refine (HEN.out _ B3.out).mono ?_
      rintro e w4 ⟨rfl, hb⟩
      have C4 := Lib.hid (C3.out.below hb)
      have D4 := Lib.hid (D3.out.below hb)
      have B4 := Lib.hid (bt B3.out hb)
      clear hb C3 D3 B3 HEN R3
      have HG4 := Lib.hid (HGD.out _ B4.out)
      have R4 := Lib.hid C4.out.range
      cases hg : Wi.good m with
      | false =>
        rw [hg] at HG4
        rw [wencode_no' hg]
        go_wp2_with (refine wpList_load_mid (by rfl) _ _ (by rfl) b1 0 (by rfl) cs _ R4.out Tryz.underlying36 (by rfl) HIL.out ?_)
        refine HG4.out.mono ?_
        rintro e w5 ⟨rfl, hb⟩
        have B5 := Lib.hid (bt B4.out hb)
        clear hb
        go_wp2
        go_ret
        exact ⟨rfl, B5.out⟩
      | true =>
        rw [hg] at HG4
        rw [wencode_yes' hg]
        have hel := Wi.enc_le hg
        have hpl := Frm.put_length (Wi.enc m)
        have HDC := Lib.hid (fun (W : World) (hL : Lw W) => wdecode_any (Frm.put (Wi.enc m)) (by omega) W hL)
        have HDM := Lib.hid (fun (W : World) (hL : Lw W) => wdecode_any (Frm.put (Wi.enc m) ++ more) (by rw [List.length_append]; omega) W hL)
        rw [decM_put hg] at HDC
        unfold DecR at HDC
        simp only [Option.getD_some] at HDC
        have hmd : decM (Frm.put (Wi.enc m) ++ more) = if more = [] then (some m, 0) else (none, 3) := by
          by_cases hmo : more = []
          · rw [if_pos hmo, hmo, List.append_nil, decM_put hg]
          · rw [if_neg hmo, decM_more hg hmo]
        have hsl : (Frm.put (Wi.enc m)).length ≤ 20000 := by omega
        have HPS : Hid (Wi.good n = true → decide (Frm.put (Wi.enc m) = Frm.put (Wi.enc n)) = Wi.same m n) := fun h => put_same hg h
        have HMD := Lib.hid hmd
        clear hmd
        generalize Frm.put (Wi.enc m) = S at *
        go_wp2_with (refine wpList_load_mid (by rfl) _ _ (by rfl) b1 0 (by rfl) cs _ R4.out Tryz.underlying36 (by rfl) HIL.out ?_)
        refine HG4.out.mono ?_
        rintro e w5 ⟨rfl, hb⟩
        have C5 := Lib.hid (C4.out.below hb)
        have D5 := Lib.hid (D4.out.below hb)
        have B5 := Lib.hid (bt B4.out hb)
        clear hb C4 D4 B4 R4 HG4
        have R5 := Lib.hid D5.out.range
        go_wp2_with (refine wpList_load_mid (by rfl) _ _ (by rfl) (b1 + 1) 0 (by rfl) ds _ R5.out Tryz.underlying36 (by rfl) HJL.out ?_)
        refine (HEN2.out _ B5.out).mono ?_
        rintro e w6 ⟨rfl, hb⟩
        have C6 := Lib.hid (C5.out.below hb)
        have D6 := Lib.hid (D5.out.below hb)
        have B6 := Lib.hid (bt B5.out hb)
        clear hb C5 D5 B5 R5 HEN2
        obtain ⟨ye, yv, hyv⟩ : ∃ (ye : Int) (yv : List UInt8), wencR n = .tuple #[.string ⟨yv.toArray⟩, .int .i64 ye] ∧ (ye = 0 → decide (S = yv) = Wi.same m n) ∧ (ye = 0 ∨ ye = 1) := by
          cases hgn : Wi.good n with
          | false => exact ⟨1, [], wencode_no' hgn, (fun e => by cases e), .inr rfl⟩
          | true => exact ⟨0, _, wencode_yes' hgn, (fun _ => HPS.out hgn), .inl rfl⟩
        obtain ⟨hy1, hy2, hy3⟩ := hyv
        rw [hy1]
        clear hy1 HPS
        go_wp2_with fail
        refine (HDC.out _ (HLW.out _ B6.out)).mono ?_
        rintro e w7 ⟨v1, rfl, hmo, hmk, hb⟩
        have C7 := Lib.hid (C6.out.below hb)
        have D7 := Lib.hid (D6.out.below hb)
        have B7 := Lib.hid (bt B6.out hb)
        clear hb C6 D6 B6 HDC
        obtain ⟨cd1, hmv, HCD1, HIL1, HIA1, HON1, HSZ1⟩ := msg_cells m v1 w7 hmo.at
        rw [hmv]
        have HMV1 := Lib.hid hmv
        clear hmv
        have MO1 := Lib.hid hmo
        have MK1 := Lib.hid hmk
        have CM : Hid ((w7.alloc (.cells (.int .i64 0 :: .int .i64 0 :: .int .i64 0 :: .int .i64 0 :: .int .i64 0 :: .int .i64 0 :: .int .i64 0 :: .int .i64 0 :: .int .i64 0 :: .slice none 0 0 :: .int .i64 0 :: .slice none 0 0 :: .int .i64 0 :: .int .i64 0 :: .int .i64 0 :: .int .i64 0 :: .int .i64 0 :: .slice none 0 0 :: .slice none 0 0 :: .int .i64 0 :: .int .i64 0 :: .int .i64 0 :: .int .i64 0 :: .int .i64 0 :: .int .i64 0 :: .int .i64 0 :: .int .i64 0 :: .string ⟨#[]⟩ :: .string ⟨#[]⟩ :: .slice none 0 0 :: .int .i64 0 :: .int .i64 0 :: .int .i64 0 :: .int .i64 0 :: .int .i64 0 :: .int .i64 0 :: .slice none 0 0 :: .slice none 0 0 :: []).toArray 36)).heap[w7.heap.size]? = some (.cells (.int .i64 0 :: .int .i64 0 :: .int .i64 0 :: .int .i64 0 :: .int .i64 0 :: .int .i64 0 :: .int .i64 0 :: .int .i64 0 :: .int .i64 0 :: .slice none 0 0 :: .int .i64 0 :: .slice none 0 0 :: .int .i64 0 :: .int .i64 0 :: .int .i64 0 :: .int .i64 0 :: .int .i64 0 :: .slice none 0 0 :: .slice none 0 0 :: .int .i64 0 :: .int .i64 0 :: .int .i64 0 :: .int .i64 0 :: .int .i64 0 :: .int .i64 0 :: .int .i64 0 :: .int .i64 0 :: .string ⟨#[]⟩ :: .string ⟨#[]⟩ :: .slice none 0 0 :: .int .i64 0 :: .int .i64 0 :: .int .i64 0 :: .int .i64 0 :: .int .i64 0 :: .int .i64 0 :: .slice none 0 0 :: .slice none 0 0 :: []).toArray 36 (0, 0))) := Cl.new w7 (.int .i64 0 :: .int .i64 0 :: .int .i64 0 :: .int .i64 0 :: .int .i64 0 :: .int .i64 0 :: .int .i64 0 :: .int .i64 0 :: .int .i64 0 :: .slice none 0 0 :: .int .i64 0 :: .slice none 0 0 :: .int .i64 0 :: .int .i64 0 :: .int .i64 0 :: .int .i64 0 :: .int .i64 0 :: .slice none 0 0 :: .slice none 0 0 :: .int .i64 0 :: .int .i64 0 :: .int .i64 0 :: .int .i64 0 :: .int .i64 0 :: .int .i64 0 :: .int .i64 0 :: .int .i64 0 :: .string ⟨#[]⟩ :: .string ⟨#[]⟩ :: .slice none 0 0 :: .int .i64 0 :: .int .i64 0 :: .int .i64 0 :: .int .i64 0 :: .int .i64 0 :: .int .i64 0 :: .slice none 0 0 :: .slice none 0 0 :: []) _
        have CD1 : Hid (Cl ((w7.alloc (.cells (.int .i64 0 :: .int .i64 0 :: .int .i64 0 :: .int .i64 0 :: .int .i64 0 :: .int .i64 0 :: .int .i64 0 :: .int .i64 0 :: .int .i64 0 :: .slice none 0 0 :: .int .i64 0 :: .slice none 0 0 :: .int .i64 0 :: .int .i64 0 :: .int .i64 0 :: .int .i64 0 :: .int .i64 0 :: .slice none 0 0 :: .slice none 0 0 :: .int .i64 0 :: .int .i64 0 :: .int .i64 0 :: .int .i64 0 :: .int .i64 0 :: .int .i64 0 :: .int .i64 0 :: .int .i64 0 :: .string ⟨#[]⟩ :: .string ⟨#[]⟩ :: .slice none 0 0 :: .int .i64 0 :: .int .i64 0 :: .int .i64 0 :: .int .i64 0 :: .int .i64 0 :: .int .i64 0 :: .slice none 0 0 :: .slice none 0 0 :: []).toArray 36)).setRow w7.heap.size cd1.toArray) w7.heap.size cd1 36) := by
          have := Cl.row (Cl.new w7 (.int .i64 0 :: .int .i64 0 :: .int .i64 0 :: .int .i64 0 :: .int .i64 0 :: .int .i64 0 :: .int .i64 0 :: .int .i64 0 :: .int .i64 0 :: .slice none 0 0 :: .int .i64 0 :: .slice none 0 0 :: .int .i64 0 :: .int .i64 0 :: .int .i64 0 :: .int .i64 0 :: .int .i64 0 :: .slice none 0 0 :: .slice none 0 0 :: .int .i64 0 :: .int .i64 0 :: .int .i64 0 :: .int .i64 0 :: .int .i64 0 :: .int .i64 0 :: .int .i64 0 :: .int .i64 0 :: .string ⟨#[]⟩ :: .string ⟨#[]⟩ :: .slice none 0 0 :: .int .i64 0 :: .int .i64 0 :: .int .i64 0 :: .int .i64 0 :: .int .i64 0 :: .int .i64 0 :: .slice none 0 0 :: .slice none 0 0 :: []) 36) cd1.toArray
          rwa [List.toList_toArray] at this
        have bd1 : Hid (Below w7.heap.size w7 ((w7.alloc (.cells (.int .i64 0 :: .int .i64 0 :: .int .i64 0 :: .int .i64 0 :: .int .i64 0 :: .int .i64 0 :: .int .i64 0 :: .int .i64 0 :: .int .i64 0 :: .slice none 0 0 :: .int .i64 0 :: .slice none 0 0 :: .int .i64 0 :: .int .i64 0 :: .int .i64 0 :: .int .i64 0 :: .int .i64 0 :: .slice none 0 0 :: .slice none 0 0 :: .int .i64 0 :: .int .i64 0 :: .int .i64 0 :: .int .i64 0 :: .int .i64 0 :: .int .i64 0 :: .int .i64 0 :: .int .i64 0 :: .string ⟨#[]⟩ :: .string ⟨#[]⟩ :: .slice none 0 0 :: .int .i64 0 :: .int .i64 0 :: .int .i64 0 :: .int .i64 0 :: .int .i64 0 :: .int .i64 0 :: .slice none 0 0 :: .slice none 0 0 :: []).toArray 36)).setRow w7.heap.size cd1.toArray)) := ((Below.refl _ _).alloc (Nat.le_refl _) _).trans ((Keeps.row (S := fun j => j = w7.heap.size) _ w7.heap.size _ rfl).toBelow (by simp) (fun k hk e => by omega))
        clear hmo hmk
        go_upto_region 12 with (refine wpList_store_row (by rfl) _ _ _ (by rfl) w7.heap.size cd1.toArray (by rfl) (by rfl) 36 _ CM.out HIA1.out HSZ1.out HON1.out ?_)
        clear CM
        generalize (w7.alloc (.cells (.int .i64 0 :: .int .i64 0 :: .int .i64 0 :: .int .i64 0 :: .int .i64 0 :: .int .i64 0 :: .int .i64 0 :: .int .i64 0 :: .int .i64 0 :: .slice none 0 0 :: .int .i64 0 :: .slice none 0 0 :: .int .i64 0 :: .int .i64 0 :: .int .i64 0 :: .int .i64 0 :: .int .i64 0 :: .slice none 0 0 :: .slice none 0 0 :: .int .i64 0 :: .int .i64 0 :: .int .i64 0 :: .int .i64 0 :: .int .i64 0 :: .int .i64 0 :: .int .i64 0 :: .int .i64 0 :: .string ⟨#[]⟩ :: .string ⟨#[]⟩ :: .slice none 0 0 :: .int .i64 0 :: .int .i64 0 :: .int .i64 0 :: .int .i64 0 :: .int .i64 0 :: .int .i64 0 :: .slice none 0 0 :: .slice none 0 0 :: []).toArray 36)).setRow w7.heap.size cd1.toArray = w8 at *
        have C8 := Lib.hid (C7.out.below bd1.out)
        have D8 := Lib.hid (D7.out.below bd1.out)
        have B8 := Lib.hid (bt B7.out bd1.out)
        have M8 := Lib.hid (MO1.out.at.kept bd1.out)
        have HS1 := Lib.hid (HSM1.out w8 B8.out v1 M8.out)
        rw [HMV1.out] at HS1
        clear C7 D7 B7 bd1 MO1 HMV1 M8 HSM1
        generalize w7.heap.size = b7 at *
        go_cut [72] (fun t wz => t = .bool false ∧ Below w.heap.size w wz)
        case first =>
          clear HMD HDM
          have R8 := Lib.hid C8.out.range
          have Q8 := Lib.hid CD1.out.range
          go_wp2_with (first
            | (refine wpList_load_yes (by rfl) _ _ (by rfl) b7 0 (by rfl) cd1 _ Q8.out Tryz.underlying36 (by rfl) HIL1.out ?_)
            | (refine wpList_load_yes (by rfl) _ _ (by rfl) b1 0 (by rfl) cs _ R8.out Tryz.underlying36 (by rfl) HIL.out ?_))
          refine HS1.out.mono ?_
          rintro e w9 ⟨rfl, hb⟩
          have C9 := Lib.hid (C8.out.below hb)
          have D9 := Lib.hid (D8.out.below hb)
          have B9 := Lib.hid (bt B8.out hb)
          clear hb C8 D8 B8 R8 Q8 HS1
          rcases hy3 with rfl | rfl
          · have hSS := hy2 rfl
            have HS2 := Lib.hid (HSM2.out _ B9.out)
            have R9 := Lib.hid C9.out.range
            have Q9 := Lib.hid D9.out.range
            clear hy2
            by_cases hs : S = yv
            · subst hs
              rw [← hSS, decide_eq_true rfl] at HS2
              go_wp2_with (first
                | (refine wpList_load_yes (by rfl) _ _ (by rfl) b1 0 (by rfl) cs _ R9.out Tryz.underlying36 (by rfl) HIL.out ?_)
                | (refine wpList_load_yes (by rfl) _ _ (by rfl) (b1 + 1) 0 (by rfl) ds _ Q9.out Tryz.underlying36 (by rfl) HJL.out ?_))
              refine HS2.out.mono ?_
              rintro e wA ⟨rfl, hb⟩
              have BA := Lib.hid (bt B9.out hb)
              clear hb
              go_wp2
              go_meet
              case rel => exact ⟨rfl, BA.out⟩
            · rw [← hSS, decide_eq_false hs] at HS2
              go_wp2_with (first
                | (refine wpList_load_yes (by rfl) _ _ (by rfl) b1 0 (by rfl) cs _ R9.out Tryz.underlying36 (by rfl) HIL.out ?_)
                | (refine wpList_load_yes (by rfl) _ _ (by rfl) (b1 + 1) 0 (by rfl) ds _ Q9.out Tryz.underlying36 (by rfl) HJL.out ?_))
              refine HS2.out.mono ?_
              rintro e wA ⟨rfl, hb⟩
              have BA := Lib.hid (bt B9.out hb)
              clear hb
              go_wp2
              go_meet
              case rel => exact ⟨by first | rfl | simp [hs], BA.out⟩
          · clear hy2
            go_wp2
            go_meet
            case rel => exact ⟨rfl, B9.out⟩
        case rest =>
          obtain ⟨rfl, hB9⟩ := hcut
          have B9 := Lib.hid hB9
          clear hB9 C8 D8 B8 CD1
          generalize wc = w9 at *
          rw [HMD.out] at HDM
          unfold DecR at HDM
          by_cases hmo : more = []
          · subst hmo
            rw [if_pos rfl] at HDM
            simp only [Option.getD_some] at HDM
            rw [List.append_nil] at HDM
            go_wp2_with fail
            refine (HDM.out _ (HLW.out _ B9.out)).mono ?_
            rintro e wA ⟨v2, rfl, hmo, hmk, hb⟩
            have BA := Lib.hid (bt B9.out hb)
            clear hb B9 HDM
            obtain ⟨cd2, hmv, HCD2, HIL2, HIA2, HON2, HSZ2⟩ := msg_cells m v2 wA hmo.at
            rw [hmv]
            have HMV2 := Lib.hid hmv
            clear hmv
            have MO2 := Lib.hid hmo
            have MK2 := Lib.hid hmk
            have CM : Hid ((wA.alloc (.cells (.int .i64 0 :: .int .i64 0 :: .int .i64 0 :: .int .i64 0 :: .int .i64 0 :: .int .i64 0 :: .int .i64 0 :: .int .i64 0 :: .int .i64 0 :: .slice none 0 0 :: .int .i64 0 :: .slice none 0 0 :: .int .i64 0 :: .int .i64 0 :: .int .i64 0 :: .int .i64 0 :: .int .i64 0 :: .slice none 0 0 :: .slice none 0 0 :: .int .i64 0 :: .int .i64 0 :: .int .i64 0 :: .int .i64 0 :: .int .i64 0 :: .int .i64 0 :: .int .i64 0 :: .int .i64 0 :: .string ⟨#[]⟩ :: .string ⟨#[]⟩ :: .slice none 0 0 :: .int .i64 0 :: .int .i64 0 :: .int .i64 0 :: .int .i64 0 :: .int .i64 0 :: .int .i64 0 :: .slice none 0 0 :: .slice none 0 0 :: []).toArray 36)).heap[wA.heap.size]? = some (.cells (.int .i64 0 :: .int .i64 0 :: .int .i64 0 :: .int .i64 0 :: .int .i64 0 :: .int .i64 0 :: .int .i64 0 :: .int .i64 0 :: .int .i64 0 :: .slice none 0 0 :: .int .i64 0 :: .slice none 0 0 :: .int .i64 0 :: .int .i64 0 :: .int .i64 0 :: .int .i64 0 :: .int .i64 0 :: .slice none 0 0 :: .slice none 0 0 :: .int .i64 0 :: .int .i64 0 :: .int .i64 0 :: .int .i64 0 :: .int .i64 0 :: .int .i64 0 :: .int .i64 0 :: .int .i64 0 :: .string ⟨#[]⟩ :: .string ⟨#[]⟩ :: .slice none 0 0 :: .int .i64 0 :: .int .i64 0 :: .int .i64 0 :: .int .i64 0 :: .int .i64 0 :: .int .i64 0 :: .slice none 0 0 :: .slice none 0 0 :: []).toArray 36 (0, 0))) := Cl.new wA (.int .i64 0 :: .int .i64 0 :: .int .i64 0 :: .int .i64 0 :: .int .i64 0 :: .int .i64 0 :: .int .i64 0 :: .int .i64 0 :: .int .i64 0 :: .slice none 0 0 :: .int .i64 0 :: .slice none 0 0 :: .int .i64 0 :: .int .i64 0 :: .int .i64 0 :: .int .i64 0 :: .int .i64 0 :: .slice none 0 0 :: .slice none 0 0 :: .int .i64 0 :: .int .i64 0 :: .int .i64 0 :: .int .i64 0 :: .int .i64 0 :: .int .i64 0 :: .int .i64 0 :: .int .i64 0 :: .string ⟨#[]⟩ :: .string ⟨#[]⟩ :: .slice none 0 0 :: .int .i64 0 :: .int .i64 0 :: .int .i64 0 :: .int .i64 0 :: .int .i64 0 :: .int .i64 0 :: .slice none 0 0 :: .slice none 0 0 :: []) _
            have CD2 : Hid (Cl ((wA.alloc (.cells (.int .i64 0 :: .int .i64 0 :: .int .i64 0 :: .int .i64 0 :: .int .i64 0 :: .int .i64 0 :: .int .i64 0 :: .int .i64 0 :: .int .i64 0 :: .slice none 0 0 :: .int .i64 0 :: .slice none 0 0 :: .int .i64 0 :: .int .i64 0 :: .int .i64 0 :: .int .i64 0 :: .int .i64 0 :: .slice none 0 0 :: .slice none 0 0 :: .int .i64 0 :: .int .i64 0 :: .int .i64 0 :: .int .i64 0 :: .int .i64 0 :: .int .i64 0 :: .int .i64 0 :: .int .i64 0 :: .string ⟨#[]⟩ :: .string ⟨#[]⟩ :: .slice none 0 0 :: .int .i64 0 :: .int .i64 0 :: .int .i64 0 :: .int .i64 0 :: .int .i64 0 :: .int .i64 0 :: .slice none 0 0 :: .slice none 0 0 :: []).toArray 36)).setRow wA.heap.size cd2.toArray) wA.heap.size cd2 36) := by
              have := Cl.row (Cl.new wA (.int .i64 0 :: .int .i64 0 :: .int .i64 0 :: .int .i64 0 :: .int .i64 0 :: .int .i64 0 :: .int .i64 0 :: .int .i64 0 :: .int .i64 0 :: .slice none 0 0 :: .int .i64 0 :: .slice none 0 0 :: .int .i64 0 :: .int .i64 0 :: .int .i64 0 :: .int .i64 0 :: .int .i64 0 :: .slice none 0 0 :: .slice none 0 0 :: .int .i64 0 :: .int .i64 0 :: .int .i64 0 :: .int .i64 0 :: .int .i64 0 :: .int .i64 0 :: .int .i64 0 :: .int .i64 0 :: .string ⟨#[]⟩ :: .string ⟨#[]⟩ :: .slice none 0 0 :: .int .i64 0 :: .int .i64 0 :: .int .i64 0 :: .int .i64 0 :: .int .i64 0 :: .int .i64 0 :: .slice none 0 0 :: .slice none 0 0 :: []) 36) cd2.toArray
              rwa [List.toList_toArray] at this
            have bd2 : Hid (Below wA.heap.size wA ((wA.alloc (.cells (.int .i64 0 :: .int .i64 0 :: .int .i64 0 :: .int .i64 0 :: .int .i64 0 :: .int .i64 0 :: .int .i64 0 :: .int .i64 0 :: .int .i64 0 :: .slice none 0 0 :: .int .i64 0 :: .slice none 0 0 :: .int .i64 0 :: .int .i64 0 :: .int .i64 0 :: .int .i64 0 :: .int .i64 0 :: .slice none 0 0 :: .slice none 0 0 :: .int .i64 0 :: .int .i64 0 :: .int .i64 0 :: .int .i64 0 :: .int .i64 0 :: .int .i64 0 :: .int .i64 0 :: .int .i64 0 :: .string ⟨#[]⟩ :: .string ⟨#[]⟩ :: .slice none 0 0 :: .int .i64 0 :: .int .i64 0 :: .int .i64 0 :: .int .i64 0 :: .int .i64 0 :: .int .i64 0 :: .slice none 0 0 :: .slice none 0 0 :: []).toArray 36)).setRow wA.heap.size cd2.toArray)) := ((Below.refl _ _).alloc (Nat.le_refl _) _).trans ((Keeps.row (S := fun j => j = wA.heap.size) _ wA.heap.size _ rfl).toBelow (by simp) (fun k hk e => by omega))
            clear hmo hmk
            go_upto_region 15 with (refine wpList_store_row (by rfl) _ _ _ (by rfl) wA.heap.size cd2.toArray (by rfl) (by rfl) 36 _ CM.out HIA2.out HSZ2.out HON2.out ?_)
            clear CM
            generalize (wA.alloc (.cells (.int .i64 0 :: .int .i64 0 :: .int .i64 0 :: .int .i64 0 :: .int .i64 0 :: .int .i64 0 :: .int .i64 0 :: .int .i64 0 :: .int .i64 0 :: .slice none 0 0 :: .int .i64 0 :: .slice none 0 0 :: .int .i64 0 :: .int .i64 0 :: .int .i64 0 :: .int .i64 0 :: .int .i64 0 :: .slice none 0 0 :: .slice none 0 0 :: .int .i64 0 :: .int .i64 0 :: .int .i64 0 :: .int .i64 0 :: .int .i64 0 :: .int .i64 0 :: .int .i64 0 :: .int .i64 0 :: .string ⟨#[]⟩ :: .string ⟨#[]⟩ :: .slice none 0 0 :: .int .i64 0 :: .int .i64 0 :: .int .i64 0 :: .int .i64 0 :: .int .i64 0 :: .int .i64 0 :: .slice none 0 0 :: .slice none 0 0 :: []).toArray 36)).setRow wA.heap.size cd2.toArray = wB at *
            have BB := Lib.hid (bt BA.out bd2.out)
            go_wp2
            go_ret
            exact ⟨rfl, BB.out⟩
          · rw [if_neg hmo] at HDM
            simp only [Option.getD_none] at HDM
            have HMO := Lib.hid hmo
            have hmo2 : ¬ more.length = 0 := fun e => hmo (List.eq_nil_of_length_eq_zero e)
            go_wp2_with fail
            refine (HDM.out _ (HLW.out _ B9.out)).mono ?_
            rintro e wA ⟨v2, rfl, hmo, hmk, hb⟩
            have BA := Lib.hid (bt B9.out hb)
            clear hb B9 HDM
            obtain ⟨cd2, hmv, HCD2, HIL2, HIA2, HON2, HSZ2⟩ := msg_cells Wi.zMsg v2 wA hmo.at
            rw [hmv]
            have HMV2 := Lib.hid hmv
            clear hmv
            have MO2 := Lib.hid hmo
            have MK2 := Lib.hid hmk
            have CM : Hid ((wA.alloc (.cells (.int .i64 0 :: .int .i64 0 :: .int .i64 0 :: .int .i64 0 :: .int .i64 0 :: .int .i64 0 :: .int .i64 0 :: .int .i64 0 :: .int .i64 0 :: .slice none 0 0 :: .int .i64 0 :: .slice none 0 0 :: .int .i64 0 :: .int .i64 0 :: .int .i64 0 :: .int .i64 0 :: .int .i64 0 :: .slice none 0 0 :: .slice none 0 0 :: .int .i64 0 :: .int .i64 0 :: .int .i64 0 :: .int .i64 0 :: .int .i64 0 :: .int .i64 0 :: .int .i64 0 :: .int .i64 0 :: .string ⟨#[]⟩ :: .string ⟨#[]⟩ :: .slice none 0 0 :: .int .i64 0 :: .int .i64 0 :: .int .i64 0 :: .int .i64 0 :: .int .i64 0 :: .int .i64 0 :: .slice none 0 0 :: .slice none 0 0 :: []).toArray 36)).heap[wA.heap.size]? = some (.cells (.int .i64 0 :: .int .i64 0 :: .int .i64 0 :: .int .i64 0 :: .int .i64 0 :: .int .i64 0 :: .int .i64 0 :: .int .i64 0 :: .int .i64 0 :: .slice none 0 0 :: .int .i64 0 :: .slice none 0 0 :: .int .i64 0 :: .int .i64 0 :: .int .i64 0 :: .int .i64 0 :: .int .i64 0 :: .slice none 0 0 :: .slice none 0 0 :: .int .i64 0 :: .int .i64 0 :: .int .i64 0 :: .int .i64 0 :: .int .i64 0 :: .int .i64 0 :: .int .i64 0 :: .int .i64 0 :: .string ⟨#[]⟩ :: .string ⟨#[]⟩ :: .slice none 0 0 :: .int .i64 0 :: .int .i64 0 :: .int .i64 0 :: .int .i64 0 :: .int .i64 0 :: .int .i64 0 :: .slice none 0 0 :: .slice none 0 0 :: []).toArray 36 (0, 0))) := Cl.new wA (.int .i64 0 :: .int .i64 0 :: .int .i64 0 :: .int .i64 0 :: .int .i64 0 :: .int .i64 0 :: .int .i64 0 :: .int .i64 0 :: .int .i64 0 :: .slice none 0 0 :: .int .i64 0 :: .slice none 0 0 :: .int .i64 0 :: .int .i64 0 :: .int .i64 0 :: .int .i64 0 :: .int .i64 0 :: .slice none 0 0 :: .slice none 0 0 :: .int .i64 0 :: .int .i64 0 :: .int .i64 0 :: .int .i64 0 :: .int .i64 0 :: .int .i64 0 :: .int .i64 0 :: .int .i64 0 :: .string ⟨#[]⟩ :: .string ⟨#[]⟩ :: .slice none 0 0 :: .int .i64 0 :: .int .i64 0 :: .int .i64 0 :: .int .i64 0 :: .int .i64 0 :: .int .i64 0 :: .slice none 0 0 :: .slice none 0 0 :: []) _
            have CD2 : Hid (Cl ((wA.alloc (.cells (.int .i64 0 :: .int .i64 0 :: .int .i64 0 :: .int .i64 0 :: .int .i64 0 :: .int .i64 0 :: .int .i64 0 :: .int .i64 0 :: .int .i64 0 :: .slice none 0 0 :: .int .i64 0 :: .slice none 0 0 :: .int .i64 0 :: .int .i64 0 :: .int .i64 0 :: .int .i64 0 :: .int .i64 0 :: .slice none 0 0 :: .slice none 0 0 :: .int .i64 0 :: .int .i64 0 :: .int .i64 0 :: .int .i64 0 :: .int .i64 0 :: .int .i64 0 :: .int .i64 0 :: .int .i64 0 :: .string ⟨#[]⟩ :: .string ⟨#[]⟩ :: .slice none 0 0 :: .int .i64 0 :: .int .i64 0 :: .int .i64 0 :: .int .i64 0 :: .int .i64 0 :: .int .i64 0 :: .slice none 0 0 :: .slice none 0 0 :: []).toArray 36)).setRow wA.heap.size cd2.toArray) wA.heap.size cd2 36) := by
              have := Cl.row (Cl.new wA (.int .i64 0 :: .int .i64 0 :: .int .i64 0 :: .int .i64 0 :: .int .i64 0 :: .int .i64 0 :: .int .i64 0 :: .int .i64 0 :: .int .i64 0 :: .slice none 0 0 :: .int .i64 0 :: .slice none 0 0 :: .int .i64 0 :: .int .i64 0 :: .int .i64 0 :: .int .i64 0 :: .int .i64 0 :: .slice none 0 0 :: .slice none 0 0 :: .int .i64 0 :: .int .i64 0 :: .int .i64 0 :: .int .i64 0 :: .int .i64 0 :: .int .i64 0 :: .int .i64 0 :: .int .i64 0 :: .string ⟨#[]⟩ :: .string ⟨#[]⟩ :: .slice none 0 0 :: .int .i64 0 :: .int .i64 0 :: .int .i64 0 :: .int .i64 0 :: .int .i64 0 :: .int .i64 0 :: .slice none 0 0 :: .slice none 0 0 :: []) 36) cd2.toArray
              rwa [List.toList_toArray] at this
            have bd2 : Hid (Below wA.heap.size wA ((wA.alloc (.cells (.int .i64 0 :: .int .i64 0 :: .int .i64 0 :: .int .i64 0 :: .int .i64 0 :: .int .i64 0 :: .int .i64 0 :: .int .i64 0 :: .int .i64 0 :: .slice none 0 0 :: .int .i64 0 :: .slice none 0 0 :: .int .i64 0 :: .int .i64 0 :: .int .i64 0 :: .int .i64 0 :: .int .i64 0 :: .slice none 0 0 :: .slice none 0 0 :: .int .i64 0 :: .int .i64 0 :: .int .i64 0 :: .int .i64 0 :: .int .i64 0 :: .int .i64 0 :: .int .i64 0 :: .int .i64 0 :: .string ⟨#[]⟩ :: .string ⟨#[]⟩ :: .slice none 0 0 :: .int .i64 0 :: .int .i64 0 :: .int .i64 0 :: .int .i64 0 :: .int .i64 0 :: .int .i64 0 :: .slice none 0 0 :: .slice none 0 0 :: []).toArray 36)).setRow wA.heap.size cd2.toArray)) := ((Below.refl _ _).alloc (Nat.le_refl _) _).trans ((Keeps.row (S := fun j => j = wA.heap.size) _ wA.heap.size _ rfl).toBelow (by simp) (fun k hk e => by omega))
            clear hmo hmk
            go_upto_region 15 with (refine wpList_store_row (by rfl) _ _ _ (by rfl) wA.heap.size cd2.toArray (by rfl) (by rfl) 36 _ CM.out HIA2.out HSZ2.out HON2.out ?_)
            clear CM
            generalize (wA.alloc (.cells (.int .i64 0 :: .int .i64 0 :: .int .i64 0 :: .int .i64 0 :: .int .i64 0 :: .int .i64 0 :: .int .i64 0 :: .int .i64 0 :: .int .i64 0 :: .slice none 0 0 :: .int .i64 0 :: .slice none 0 0 :: .int .i64 0 :: .int .i64 0 :: .int .i64 0 :: .int .i64 0 :: .int .i64 0 :: .slice none 0 0 :: .slice none 0 0 :: .int .i64 0 :: .int .i64 0 :: .int .i64 0 :: .int .i64 0 :: .int .i64 0 :: .int .i64 0 :: .int .i64 0 :: .int .i64 0 :: .string ⟨#[]⟩ :: .string ⟨#[]⟩ :: .slice none 0 0 :: .int .i64 0 :: .int .i64 0 :: .int .i64 0 :: .int .i64 0 :: .int .i64 0 :: .int .i64 0 :: .slice none 0 0 :: .slice none 0 0 :: []).toArray 36)).setRow wA.heap.size cd2.toArray = wB at *
            have BB := Lib.hid (bt BA.out bd2.out)
            have hmo := HMO.out
            go_wp2
            go_ret
            exact ⟨by simp [hmo], BB.out⟩
end Go.Proofs.YtjfpbeccpcbpcaaGreatDoor
