/-
  Wtl: texts of one proof, one behind the other.
  Conditions: none of its own.
-/
import Derived.Test.YtjfpbeccpcbpcaaGreatDoorZbw
import Derived.BigQuiet
set_option linter.unusedVariables false
set_option linter.unusedSimpArgs false
namespace Go.Proofs.YtjfpbeccpcbpcaaGreatDoor
open Go.RowKit
set_option maxRecDepth 20000 in
set_option maxHeartbeats 12800000 in
theorem tells_walk (m : Wi.Msg) (v : MsgV) (p : Int) (c0 c1 c2 c3 : UInt8) (w : World) (h : MsgAt w m v) (ok : MsgOk m) (hcap : CapOk v.arecs) (hw : Lw w) :
    Calls Tryz.prog 7 #[msgV m v, .int .i64 p, .agg #[.int .u8 c0.toNat, .int .u8 c1.toNat, .int .u8 c2.toNat, .int .u8 c3.toNat]] w fun e w' => e = .returned (.bool true) ∧ Below w.heap.size w w' := by
  obtain ⟨cs, hmv, HCS, HIL, HIA, HON, HSZ⟩ := msg_cells m v w h
  have HGR := Lib.hid (fun (W : World) (hW : Below w.heap.size w W) => great_any m v W (h.kept hW) ok)
  have HEN := Lib.hid (fun (W : World) (hW : Below w.heap.size w W) => wencode_any m v W (h.kept hW) ok hcap (hw.below hW))
  have HGD := Lib.hid (fun (W : World) (hW : Below w.heap.size w W) => wgood_any m v W (h.kept hW) ok hcap (hw.below hW))
  have HAW := Lib.hid (fun (W : World) (hW : Below w.heap.size w W) => awake_any W (hw.below hW))
  have HLW : Hid (∀ W, Below w.heap.size w W → Lw W) := fun W hW => hw.below hW
  rw [hmv] at HGR HEN HGD
  rw [hmv]
  clear hmv h hw
  go_enter Tryz.func7, Tryz.ntmps7
  have hs1 := World.size_alloc w (.cells cs.toArray 36)
  have C1 : Hid (Cl ((w.alloc (.cells cs.toArray 36)).alloc (.cells #[.int .u8 c0.toNat, .int .u8 c1.toNat, .int .u8 c2.toNat, .int .u8 c3.toNat] 47)) w.heap.size cs 36) := (Cl.new w cs _).alloc _
  have D1 : Hid (Cl ((w.alloc (.cells cs.toArray 36)).alloc (.cells #[.int .u8 c0.toNat, .int .u8 c1.toNat, .int .u8 c2.toNat, .int .u8 c3.toNat] 47)) (w.heap.size + 1) [.int .u8 c0.toNat, .int .u8 c1.toNat, .int .u8 c2.toNat, .int .u8 c3.toNat] 47) := by
    have := Cl.new (w.alloc (.cells cs.toArray 36)) [.int .u8 c0.toNat, .int .u8 c1.toNat, .int .u8 c2.toNat, .int .u8 c3.toNat] 47
    rw [hs1] at this
    exact this
  have B1 : Hid (Below w.heap.size w ((w.alloc (.cells cs.toArray 36)).alloc (.cells #[.int .u8 c0.toNat, .int .u8 c1.toNat, .int .u8 c2.toNat, .int .u8 c3.toNat] 47))) := ((Below.refl _ _).alloc (Nat.le_refl _) _).alloc (by simp) _
  go_upto_region 1 with (fail)
  first | rw [hs1] | skip
  generalize (w.alloc (.cells cs.toArray 36)).alloc (.cells #[.int .u8 c0.toNat, .int .u8 c1.toNat, .int .u8 c2.toNat, .int .u8 c3.toNat] 47) = w1 at *
  clear hs1
  obtain ⟨b1, hb1⟩ : ∃ b1, b1 = w.heap.size := ⟨_, rfl⟩
  rw [← hb1] at C1 D1
  first | rw [← hb1] | skip
  have HB1 := Lib.hid hb1
  clear hb1
  go_wp2_with fail
  refine (HAW.out _ B1.out).mono ?_
  rintro e w2 ⟨rfl, hb⟩
  have C2 := Lib.hid (C1.out.below hb)
  have D2 := Lib.hid (D1.out.below hb)
  have B2 := Lib.hid (bt B1.out hb)
  clear hb C1 D1 B1 HAW
  have R2 := Lib.hid C2.out.range
  go_wp2_with (refine wpList_load_mid (by rfl) _ _ (by rfl) b1 0 (by rfl) cs _ R2.out Tryz.underlying36 (by rfl) HIL.out ?_)
  refine (HGR.out _ B2.out).mono ?_
  rintro e w3 ⟨gb, rfl, hb⟩
  have C3 := Lib.hid (C2.out.below hb)
  have D3 := Lib.hid (D2.out.below hb)
  have B3 := Lib.hid (bt B2.out hb)
  clear hb C2 D2 B2 HGR R2
  cases gb with
  | true =>
    go_wp2
    go_ret
    exact ⟨rfl, B3.out⟩
  | false =>
    have R3 := Lib.hid C3.out.range
    go_wp2_with (refine wpList_load_mid (by rfl) _ _ (by rfl) b1 0 (by rfl) cs _ R3.out Tryz.underlying36 (by rfl) HIL.out ?_)
    refine (HEN.out _ B3.out).mono ?_
    rintro e w4 ⟨rfl, hb⟩
    have D4 := Lib.hid (D3.out.below hb)
    have B4 := Lib.hid (bt B3.out hb)
    clear hb C3 D3 B3 HEN R3 HGD
    cases hg : Wi.good m with
    | false =>
      rw [wencode_no' hg]
      go_wp2
      go_ret
      exact ⟨rfl, B4.out⟩
    | true =>
      rw [wencode_yes' hg]
      have hel := Wi.enc_le hg
      have hlo : 8 ≤ (Wi.enc m).length := enc_long
      have hpl := Frm.put_length (Wi.enc m)
      obtain ⟨j, hj, hjm⟩ := uint_rem p (((Frm.put (Wi.enc m)).length : Int) - 11) (by omega) (by omega)
      have HT := Lib.hid (wire_tells hg j (by omega) c0 c1 c2 c3)
      unfold chg at HT
      generalize Frm.put (Wi.enc m) = S at *
      have hj4 : 8 + j + 4 ≤ S.length := by omega
      have hk : (8 + (j : Int)) = ((8 + j : Nat) : Int) := by omega
      have hk4 : (8 + (j : Int) + 4) = ((8 + j + 4 : Nat) : Int) := by omega
      have hc1 := str_to (P := Tryz.prog) S (8 + j) (8 + (j : Int)) .i64 hk (by omega) 9 Tryz.underlying9
      have hc2 := str_from (P := Tryz.prog) S (8 + j + 4) (8 + (j : Int) + 4) hk4 (by omega) 9 .i64 Tryz.underlying9
      have hw4 := IntWalk.i64_in (8 + (j : Int) + 4) (by omega)
      have hP : (S.take (8 + j)).length ≤ 17000 := by rw [List.length_take]; omega
      have hQ : (S.drop (8 + j + 4)).length ≤ 17000 := by rw [List.length_drop]; omega
      have hSl : S.length ≤ 17000 := by omega
      have hS16 : 16 ≤ S.length := by omega
      have HPL := Lib.hid hpl
      clear hpl hel hlo
      have k0 : w4.cell? ⟨b1 + 1, 0, none⟩ = some (.int .u8 c0.toNat) := D4.out.cell 0
      have k1 : w4.cell? ⟨b1 + 1, 1, none⟩ = some (.int .u8 c1.toNat) := D4.out.cell 1
      have k2 : w4.cell? ⟨b1 + 1, 2, none⟩ = some (.int .u8 c2.toNat) := D4.out.cell 2
      have k3 : w4.cell? ⟨b1 + 1, 3, none⟩ = some (.int .u8 c3.toNat) := D4.out.cell 3
      generalize S.take (8 + j) = P at *
      generalize S.drop (8 + j + 4) = Q at *
      clear hk hk4 hj4
      go_wp2_with fail
      have hconv := fun n => run_convert_bytes_arg (P := Tryz.prog) (w4.drewN n) 49 5 Tryz.underlying49 Tryz.underlying5 (b1 + 1) 0 4 4 [c0.toNat, c1.toNat, c2.toNat, c3.toNat] rfl
        (fun i hi => by match i, hi with | 0, _ => simpa using k0 | 1, _ => simpa using k1 | 2, _ => simpa using k2 | 3, _ => simpa using k3) 9 Tryz.underlying9
      have hnum : strOfNums [(c0.toNat : Int), c1.toNat, c2.toNat, c3.toNat] = ⟨[c0, c1, c2, c3].toArray⟩ := by simp [strOfNums]
      rw [hnum] at hconv
      clear hnum k0 k1 k2 k3
      go_quiet (fail)
      go_wp2_with fail
      have hT : P ++ [c0, c1, c2, c3] ++ Q = P ++ c0 :: c1 :: c2 :: c3 :: Q := by simp
      rw [hT] at HT
      have hTl : (P ++ c0 :: c1 :: c2 :: c3 :: Q).length ≤ 40000 := by simp; omega
      generalize P ++ c0 :: c1 :: c2 :: c3 :: Q = T at *
      have HDC := Lib.hid (fun (W : World) (hL : Lw W) => wdecode_any T (by omega) W hL)
      unfold DecR at HDC
      clear hconv hc1 hc2 hP hQ hw4 hjm hj hT
      generalize (decM T).1.getD Wi.zMsg = mm at *
      generalize (decM T).2 = er at *
      have HTT := HT.out
      clear HT
      by_cases her : er = 0
      · subst her
        have hST : S = T := by simpa using HTT.symm
        subst hST
        refine (HDC.out _ (HLW.out _ (by first | exact below_drewN B4.out _ | exact B4.out.drew | exact B4.out))).mono ?_
        rintro e w5 ⟨v1, rfl, hmo, hmk, hb⟩
        have B5 : Hid (Below w.heap.size w w5) := by first | exact bt B4.out (bdn hb) | exact bt B4.out hb
        clear hb HDC HTT
        obtain ⟨cd1, hmv, HCD1, HIL1, HIA1, HON1, HSZ1⟩ := msg_cells mm v1 w5 hmo.at
        rw [hmv]
        have HMV1 := Lib.hid hmv
        clear hmv
        have MO1 := Lib.hid hmo
        have MK1 := Lib.hid hmk
        have CM : Hid ((w5.alloc (.cells (.int .i64 0 :: .int .i64 0 :: .int .i64 0 :: .int .i64 0 :: .int .i64 0 :: .int .i64 0 :: .int .i64 0 :: .int .i64 0 :: .int .i64 0 :: .slice none 0 0 :: .int .i64 0 :: .slice none 0 0 :: .int .i64 0 :: .int .i64 0 :: .int .i64 0 :: .int .i64 0 :: .int .i64 0 :: .slice none 0 0 :: .slice none 0 0 :: .int .i64 0 :: .int .i64 0 :: .int .i64 0 :: .int .i64 0 :: .int .i64 0 :: .int .i64 0 :: .int .i64 0 :: .int .i64 0 :: .string ⟨#[]⟩ :: .string ⟨#[]⟩ :: .slice none 0 0 :: .int .i64 0 :: .int .i64 0 :: .int .i64 0 :: .int .i64 0 :: .int .i64 0 :: .int .i64 0 :: .slice none 0 0 :: .slice none 0 0 :: []).toArray 36)).heap[w5.heap.size]? = some (.cells (.int .i64 0 :: .int .i64 0 :: .int .i64 0 :: .int .i64 0 :: .int .i64 0 :: .int .i64 0 :: .int .i64 0 :: .int .i64 0 :: .int .i64 0 :: .slice none 0 0 :: .int .i64 0 :: .slice none 0 0 :: .int .i64 0 :: .int .i64 0 :: .int .i64 0 :: .int .i64 0 :: .int .i64 0 :: .slice none 0 0 :: .slice none 0 0 :: .int .i64 0 :: .int .i64 0 :: .int .i64 0 :: .int .i64 0 :: .int .i64 0 :: .int .i64 0 :: .int .i64 0 :: .int .i64 0 :: .string ⟨#[]⟩ :: .string ⟨#[]⟩ :: .slice none 0 0 :: .int .i64 0 :: .int .i64 0 :: .int .i64 0 :: .int .i64 0 :: .int .i64 0 :: .int .i64 0 :: .slice none 0 0 :: .slice none 0 0 :: []).toArray 36 (0, 0))) := Cl.new w5 (.int .i64 0 :: .int .i64 0 :: .int .i64 0 :: .int .i64 0 :: .int .i64 0 :: .int .i64 0 :: .int .i64 0 :: .int .i64 0 :: .int .i64 0 :: .slice none 0 0 :: .int .i64 0 :: .slice none 0 0 :: .int .i64 0 :: .int .i64 0 :: .int .i64 0 :: .int .i64 0 :: .int .i64 0 :: .slice none 0 0 :: .slice none 0 0 :: .int .i64 0 :: .int .i64 0 :: .int .i64 0 :: .int .i64 0 :: .int .i64 0 :: .int .i64 0 :: .int .i64 0 :: .int .i64 0 :: .string ⟨#[]⟩ :: .string ⟨#[]⟩ :: .slice none 0 0 :: .int .i64 0 :: .int .i64 0 :: .int .i64 0 :: .int .i64 0 :: .int .i64 0 :: .int .i64 0 :: .slice none 0 0 :: .slice none 0 0 :: []) _
        have CD1 : Hid (Cl ((w5.alloc (.cells (.int .i64 0 :: .int .i64 0 :: .int .i64 0 :: .int .i64 0 :: .int .i64 0 :: .int .i64 0 :: .int .i64 0 :: .int .i64 0 :: .int .i64 0 :: .slice none 0 0 :: .int .i64 0 :: .slice none 0 0 :: .int .i64 0 :: .int .i64 0 :: .int .i64 0 :: .int .i64 0 :: .int .i64 0 :: .slice none 0 0 :: .slice none 0 0 :: .int .i64 0 :: .int .i64 0 :: .int .i64 0 :: .int .i64 0 :: .int .i64 0 :: .int .i64 0 :: .int .i64 0 :: .int .i64 0 :: .string ⟨#[]⟩ :: .string ⟨#[]⟩ :: .slice none 0 0 :: .int .i64 0 :: .int .i64 0 :: .int .i64 0 :: .int .i64 0 :: .int .i64 0 :: .int .i64 0 :: .slice none 0 0 :: .slice none 0 0 :: []).toArray 36)).setRow w5.heap.size cd1.toArray) w5.heap.size cd1 36) := by
          have := Cl.row (Cl.new w5 (.int .i64 0 :: .int .i64 0 :: .int .i64 0 :: .int .i64 0 :: .int .i64 0 :: .int .i64 0 :: .int .i64 0 :: .int .i64 0 :: .int .i64 0 :: .slice none 0 0 :: .int .i64 0 :: .slice none 0 0 :: .int .i64 0 :: .int .i64 0 :: .int .i64 0 :: .int .i64 0 :: .int .i64 0 :: .slice none 0 0 :: .slice none 0 0 :: .int .i64 0 :: .int .i64 0 :: .int .i64 0 :: .int .i64 0 :: .int .i64 0 :: .int .i64 0 :: .int .i64 0 :: .int .i64 0 :: .string ⟨#[]⟩ :: .string ⟨#[]⟩ :: .slice none 0 0 :: .int .i64 0 :: .int .i64 0 :: .int .i64 0 :: .int .i64 0 :: .int .i64 0 :: .int .i64 0 :: .slice none 0 0 :: .slice none 0 0 :: []) 36) cd1.toArray
          rwa [List.toList_toArray] at this
        have bd1 : Hid (Below w5.heap.size w5 ((w5.alloc (.cells (.int .i64 0 :: .int .i64 0 :: .int .i64 0 :: .int .i64 0 :: .int .i64 0 :: .int .i64 0 :: .int .i64 0 :: .int .i64 0 :: .int .i64 0 :: .slice none 0 0 :: .int .i64 0 :: .slice none 0 0 :: .int .i64 0 :: .int .i64 0 :: .int .i64 0 :: .int .i64 0 :: .int .i64 0 :: .slice none 0 0 :: .slice none 0 0 :: .int .i64 0 :: .int .i64 0 :: .int .i64 0 :: .int .i64 0 :: .int .i64 0 :: .int .i64 0 :: .int .i64 0 :: .int .i64 0 :: .string ⟨#[]⟩ :: .string ⟨#[]⟩ :: .slice none 0 0 :: .int .i64 0 :: .int .i64 0 :: .int .i64 0 :: .int .i64 0 :: .int .i64 0 :: .int .i64 0 :: .slice none 0 0 :: .slice none 0 0 :: []).toArray 36)).setRow w5.heap.size cd1.toArray)) := ((Below.refl _ _).alloc (Nat.le_refl _) _).trans ((Keeps.row (S := fun j => j = w5.heap.size) _ w5.heap.size _ rfl).toBelow (by simp) (fun k hk e => by omega))
        clear hmo hmk
        go_upto_region 11 with (refine wpList_store_row (by rfl) _ _ _ (by rfl) w5.heap.size cd1.toArray (by rfl) (by rfl) 36 _ CM.out HIA1.out HSZ1.out HON1.out ?_)
        clear CM
        generalize (w5.alloc (.cells (.int .i64 0 :: .int .i64 0 :: .int .i64 0 :: .int .i64 0 :: .int .i64 0 :: .int .i64 0 :: .int .i64 0 :: .int .i64 0 :: .int .i64 0 :: .slice none 0 0 :: .int .i64 0 :: .slice none 0 0 :: .int .i64 0 :: .int .i64 0 :: .int .i64 0 :: .int .i64 0 :: .int .i64 0 :: .slice none 0 0 :: .slice none 0 0 :: .int .i64 0 :: .int .i64 0 :: .int .i64 0 :: .int .i64 0 :: .int .i64 0 :: .int .i64 0 :: .int .i64 0 :: .int .i64 0 :: .string ⟨#[]⟩ :: .string ⟨#[]⟩ :: .slice none 0 0 :: .int .i64 0 :: .int .i64 0 :: .int .i64 0 :: .int .i64 0 :: .int .i64 0 :: .int .i64 0 :: .slice none 0 0 :: .slice none 0 0 :: []).toArray 36)).setRow w5.heap.size cd1.toArray = w6 at *
        have B6 := Lib.hid (bt B5.out bd1.out)
        go_wp2
        go_ret
        exact ⟨rfl, B6.out⟩
      · have hST : ¬ S = T := by simpa [her] using HTT.symm
        have her2 : (er == 0) = false := by simpa using her
        refine (HDC.out _ (HLW.out _ (by first | exact below_drewN B4.out _ | exact B4.out.drew | exact B4.out))).mono ?_
        rintro e w5 ⟨v1, rfl, hmo, hmk, hb⟩
        have B5 : Hid (Below w.heap.size w w5) := by first | exact bt B4.out (bdn hb) | exact bt B4.out hb
        clear hb HDC HTT
        obtain ⟨cd1, hmv, HCD1, HIL1, HIA1, HON1, HSZ1⟩ := msg_cells mm v1 w5 hmo.at
        rw [hmv]
        have HMV1 := Lib.hid hmv
        clear hmv
        have MO1 := Lib.hid hmo
        have MK1 := Lib.hid hmk
        have CM : Hid ((w5.alloc (.cells (.int .i64 0 :: .int .i64 0 :: .int .i64 0 :: .int .i64 0 :: .int .i64 0 :: .int .i64 0 :: .int .i64 0 :: .int .i64 0 :: .int .i64 0 :: .slice none 0 0 :: .int .i64 0 :: .slice none 0 0 :: .int .i64 0 :: .int .i64 0 :: .int .i64 0 :: .int .i64 0 :: .int .i64 0 :: .slice none 0 0 :: .slice none 0 0 :: .int .i64 0 :: .int .i64 0 :: .int .i64 0 :: .int .i64 0 :: .int .i64 0 :: .int .i64 0 :: .int .i64 0 :: .int .i64 0 :: .string ⟨#[]⟩ :: .string ⟨#[]⟩ :: .slice none 0 0 :: .int .i64 0 :: .int .i64 0 :: .int .i64 0 :: .int .i64 0 :: .int .i64 0 :: .int .i64 0 :: .slice none 0 0 :: .slice none 0 0 :: []).toArray 36)).heap[w5.heap.size]? = some (.cells (.int .i64 0 :: .int .i64 0 :: .int .i64 0 :: .int .i64 0 :: .int .i64 0 :: .int .i64 0 :: .int .i64 0 :: .int .i64 0 :: .int .i64 0 :: .slice none 0 0 :: .int .i64 0 :: .slice none 0 0 :: .int .i64 0 :: .int .i64 0 :: .int .i64 0 :: .int .i64 0 :: .int .i64 0 :: .slice none 0 0 :: .slice none 0 0 :: .int .i64 0 :: .int .i64 0 :: .int .i64 0 :: .int .i64 0 :: .int .i64 0 :: .int .i64 0 :: .int .i64 0 :: .int .i64 0 :: .string ⟨#[]⟩ :: .string ⟨#[]⟩ :: .slice none 0 0 :: .int .i64 0 :: .int .i64 0 :: .int .i64 0 :: .int .i64 0 :: .int .i64 0 :: .int .i64 0 :: .slice none 0 0 :: .slice none 0 0 :: []).toArray 36 (0, 0))) := Cl.new w5 (.int .i64 0 :: .int .i64 0 :: .int .i64 0 :: .int .i64 0 :: .int .i64 0 :: .int .i64 0 :: .int .i64 0 :: .int .i64 0 :: .int .i64 0 :: .slice none 0 0 :: .int .i64 0 :: .slice none 0 0 :: .int .i64 0 :: .int .i64 0 :: .int .i64 0 :: .int .i64 0 :: .int .i64 0 :: .slice none 0 0 :: .slice none 0 0 :: .int .i64 0 :: .int .i64 0 :: .int .i64 0 :: .int .i64 0 :: .int .i64 0 :: .int .i64 0 :: .int .i64 0 :: .int .i64 0 :: .string ⟨#[]⟩ :: .string ⟨#[]⟩ :: .slice none 0 0 :: .int .i64 0 :: .int .i64 0 :: .int .i64 0 :: .int .i64 0 :: .int .i64 0 :: .int .i64 0 :: .slice none 0 0 :: .slice none 0 0 :: []) _
        have CD1 : Hid (Cl ((w5.alloc (.cells (.int .i64 0 :: .int .i64 0 :: .int .i64 0 :: .int .i64 0 :: .int .i64 0 :: .int .i64 0 :: .int .i64 0 :: .int .i64 0 :: .int .i64 0 :: .slice none 0 0 :: .int .i64 0 :: .slice none 0 0 :: .int .i64 0 :: .int .i64 0 :: .int .i64 0 :: .int .i64 0 :: .int .i64 0 :: .slice none 0 0 :: .slice none 0 0 :: .int .i64 0 :: .int .i64 0 :: .int .i64 0 :: .int .i64 0 :: .int .i64 0 :: .int .i64 0 :: .int .i64 0 :: .int .i64 0 :: .string ⟨#[]⟩ :: .string ⟨#[]⟩ :: .slice none 0 0 :: .int .i64 0 :: .int .i64 0 :: .int .i64 0 :: .int .i64 0 :: .int .i64 0 :: .int .i64 0 :: .slice none 0 0 :: .slice none 0 0 :: []).toArray 36)).setRow w5.heap.size cd1.toArray) w5.heap.size cd1 36) := by
          have := Cl.row (Cl.new w5 (.int .i64 0 :: .int .i64 0 :: .int .i64 0 :: .int .i64 0 :: .int .i64 0 :: .int .i64 0 :: .int .i64 0 :: .int .i64 0 :: .int .i64 0 :: .slice none 0 0 :: .int .i64 0 :: .slice none 0 0 :: .int .i64 0 :: .int .i64 0 :: .int .i64 0 :: .int .i64 0 :: .int .i64 0 :: .slice none 0 0 :: .slice none 0 0 :: .int .i64 0 :: .int .i64 0 :: .int .i64 0 :: .int .i64 0 :: .int .i64 0 :: .int .i64 0 :: .int .i64 0 :: .int .i64 0 :: .string ⟨#[]⟩ :: .string ⟨#[]⟩ :: .slice none 0 0 :: .int .i64 0 :: .int .i64 0 :: .int .i64 0 :: .int .i64 0 :: .int .i64 0 :: .int .i64 0 :: .slice none 0 0 :: .slice none 0 0 :: []) 36) cd1.toArray
          rwa [List.toList_toArray] at this
        have bd1 : Hid (Below w5.heap.size w5 ((w5.alloc (.cells (.int .i64 0 :: .int .i64 0 :: .int .i64 0 :: .int .i64 0 :: .int .i64 0 :: .int .i64 0 :: .int .i64 0 :: .int .i64 0 :: .int .i64 0 :: .slice none 0 0 :: .int .i64 0 :: .slice none 0 0 :: .int .i64 0 :: .int .i64 0 :: .int .i64 0 :: .int .i64 0 :: .int .i64 0 :: .slice none 0 0 :: .slice none 0 0 :: .int .i64 0 :: .int .i64 0 :: .int .i64 0 :: .int .i64 0 :: .int .i64 0 :: .int .i64 0 :: .int .i64 0 :: .int .i64 0 :: .string ⟨#[]⟩ :: .string ⟨#[]⟩ :: .slice none 0 0 :: .int .i64 0 :: .int .i64 0 :: .int .i64 0 :: .int .i64 0 :: .int .i64 0 :: .int .i64 0 :: .slice none 0 0 :: .slice none 0 0 :: []).toArray 36)).setRow w5.heap.size cd1.toArray)) := ((Below.refl _ _).alloc (Nat.le_refl _) _).trans ((Keeps.row (S := fun j => j = w5.heap.size) _ w5.heap.size _ rfl).toBelow (by simp) (fun k hk e => by omega))
        clear hmo hmk
        go_upto_region 11 with (refine wpList_store_row (by rfl) _ _ _ (by rfl) w5.heap.size cd1.toArray (by rfl) (by rfl) 36 _ CM.out HIA1.out HSZ1.out HON1.out ?_)
        clear CM
        generalize (w5.alloc (.cells (.int .i64 0 :: .int .i64 0 :: .int .i64 0 :: .int .i64 0 :: .int .i64 0 :: .int .i64 0 :: .int .i64 0 :: .int .i64 0 :: .int .i64 0 :: .slice none 0 0 :: .int .i64 0 :: .slice none 0 0 :: .int .i64 0 :: .int .i64 0 :: .int .i64 0 :: .int .i64 0 :: .int .i64 0 :: .slice none 0 0 :: .slice none 0 0 :: .int .i64 0 :: .int .i64 0 :: .int .i64 0 :: .int .i64 0 :: .int .i64 0 :: .int .i64 0 :: .int .i64 0 :: .int .i64 0 :: .string ⟨#[]⟩ :: .string ⟨#[]⟩ :: .slice none 0 0 :: .int .i64 0 :: .int .i64 0 :: .int .i64 0 :: .int .i64 0 :: .int .i64 0 :: .int .i64 0 :: .slice none 0 0 :: .slice none 0 0 :: []).toArray 36)).setRow w5.heap.size cd1.toArray = w6 at *
        have B6 := Lib.hid (bt B5.out bd1.out)
        have hST2 : (S == T) = false := by simpa using hST
        go_wp2
        go_ret
        exact ⟨by simp [hST], B6.out⟩
end Go.Proofs.YtjfpbeccpcbpcaaGreatDoor
