/-
  Wfm: texts of one proof, one behind the other.
  Conditions: none of its own.
-/
import Derived.Test.YtjfpbeccpcbpcaaGreatDoorZbw
import Derived.BigQuiet
set_option linter.unusedVariables false
set_option linter.unusedSimpArgs false
namespace Go.Proofs.YtjfpbeccpcbpcaaGreatDoor
open Go.RowKit
set_option maxRecDepth 20000 in
set_option maxHeartbeats 12800000 in
theorem forms_walk (s : List UInt8) (hs : s.length ≤ maxLen) (w : World) (hw : Lw w) :
    Calls Tryz.prog 6 #[.string ⟨s.toArray⟩] w fun e w' => e = .returned (.bool true) ∧ Below w.heap.size w w' := by
  have HLW : Hid (∀ W, Below w.heap.size w W → Lw W) := fun W hW => hw.below hW
  have HAW := Lib.hid (awake_any w hw)
  have HZ0 : Hid (msgV Wi.zMsg zeroV = .agg (.int .i64 0 :: .int .i64 0 :: .int .i64 0 :: .int .i64 0 :: .int .i64 0 :: .int .i64 0 :: .int .i64 0 :: .int .i64 0 :: .int .i64 0 :: .slice none 0 0 :: .int .i64 0 :: .slice none 0 0 :: .int .i64 0 :: .int .i64 0 :: .int .i64 0 :: .int .i64 0 :: .int .i64 0 :: .slice none 0 0 :: .slice none 0 0 :: .int .i64 0 :: .int .i64 0 :: .int .i64 0 :: .int .i64 0 :: .int .i64 0 :: .int .i64 0 :: .int .i64 0 :: .int .i64 0 :: .string ⟨#[]⟩ :: .string ⟨#[]⟩ :: .slice none 0 0 :: .int .i64 0 :: .int .i64 0 :: .int .i64 0 :: .int .i64 0 :: .int .i64 0 :: .int .i64 0 :: .slice none 0 0 :: .slice none 0 0 :: []).toArray) := rfl
  unfold maxLen at hs
  clear hw
  by_cases hl : 8192 < s.length
  · have hli : (8192 : Int) < (s.length : Int) := by omega
    go_enter Tryz.func6, Tryz.ntmps6
    go_wp2_with fail
    refine HAW.out.mono ?_
    rintro e w1 ⟨rfl, hb⟩
    have B1 := Lib.hid hb
    clear hb
    go_wp2
    go_ret
    exact ⟨rfl, B1.out⟩
  have hli : ¬ (8192 : Int) < (s.length : Int) := by omega
  have hl2 : s.length ≤ 8192 := by omega
  have HPU := Lib.hid (fun (W : World) => put_any s W (by omega))
  have hpl := Frm.put_length s
  go_enter Tryz.func6, Tryz.ntmps6
  go_wp2_with fail
  refine HAW.out.mono ?_
  rintro e w1 ⟨rfl, hb⟩
  have B1 := Lib.hid hb
  clear hb HAW
  go_wp2
  go_loopw [3] (fun i wr => ∃ k : Nat, i = .int .i64 k ∧ k ≤ 2 ∧ Below w.heap.size w wr) (fun i _ => 2 - (intOf i).toNat)
  case atStart => exact ⟨0, rfl, by omega, B1.out⟩
  case round =>
    obtain ⟨k, rfl, hk, hbr⟩ := hrel
    have BR := Lib.hid hbr
    clear hbr B1
    by_cases h2 : k < 2
    rotate_left
    · obtain rfl : k = 2 := by omega
      go_wp2
      go_ret
      exact ⟨rfl, BR.out⟩
    have h2i : (k : Int) < 2 := by omega
    go_upto_block 1 with (fail)
    have hround : k + 1 ≤ 2 := by omega
    go_upto_if 22 with (fail)
    go_cut [4] (fun t wz => ∃ x : List UInt8, t = .string ⟨x.toArray⟩ ∧ x.length ≤ 20000 ∧ Below w.heap.size w wz)
    case first =>
      by_cases h1 : k = 1
      · subst h1
        go_wp2_with fail
        refine (HPU.out _).mono ?_
        rintro e w2 ⟨rfl, hb⟩
        have B2 := Lib.hid (bt BR.out hb)
        clear hb
        go_wp2
        go_meet
        case rel => exact ⟨_, rfl, by omega, B2.out⟩
      · obtain rfl : k = 0 := by omega
        go_wp2
        go_meet
        case rel => exact ⟨_, rfl, by omega, BR.out⟩
    case rest =>
      obtain ⟨x, rfl, hx, hbz⟩ := hcut
      have BZ := Lib.hid hbz
      clear hbz BR HPU hpl
      have HDC := Lib.hid (wdecode_any x (by omega) wc (HLW.out _ BZ.out))
      unfold DecR at HDC
      by_cases h0 : (decM x).2 = 0
      · obtain ⟨m, hm⟩ := decM_zero h0
        obtain ⟨hg, hxe⟩ := decM_was hm
        rw [hm] at HDC
        simp only [Option.getD_some] at HDC
        have HXE := Lib.hid hxe
        clear h0 hm hxe
        go_wp2_with fail
        refine HDC.out.mono ?_
        rintro e w3 ⟨v1, rfl, hmo, hmk, hb⟩
        have B3 := Lib.hid (bt BZ.out hb)
        clear hb BZ HDC
        obtain ⟨cd1, hmv, HCD1, HIL1, HIA1, HON1, HSZ1⟩ := msg_cells m v1 w3 hmo.at
        rw [hmv]
        have HMV1 := Lib.hid hmv
        clear hmv
        have MO1 := Lib.hid hmo
        have MK1 := Lib.hid hmk
        have CM : Hid ((w3.alloc (.cells (.int .i64 0 :: .int .i64 0 :: .int .i64 0 :: .int .i64 0 :: .int .i64 0 :: .int .i64 0 :: .int .i64 0 :: .int .i64 0 :: .int .i64 0 :: .slice none 0 0 :: .int .i64 0 :: .slice none 0 0 :: .int .i64 0 :: .int .i64 0 :: .int .i64 0 :: .int .i64 0 :: .int .i64 0 :: .slice none 0 0 :: .slice none 0 0 :: .int .i64 0 :: .int .i64 0 :: .int .i64 0 :: .int .i64 0 :: .int .i64 0 :: .int .i64 0 :: .int .i64 0 :: .int .i64 0 :: .string ⟨#[]⟩ :: .string ⟨#[]⟩ :: .slice none 0 0 :: .int .i64 0 :: .int .i64 0 :: .int .i64 0 :: .int .i64 0 :: .int .i64 0 :: .int .i64 0 :: .slice none 0 0 :: .slice none 0 0 :: []).toArray 36)).heap[w3.heap.size]? = some (.cells (.int .i64 0 :: .int .i64 0 :: .int .i64 0 :: .int .i64 0 :: .int .i64 0 :: .int .i64 0 :: .int .i64 0 :: .int .i64 0 :: .int .i64 0 :: .slice none 0 0 :: .int .i64 0 :: .slice none 0 0 :: .int .i64 0 :: .int .i64 0 :: .int .i64 0 :: .int .i64 0 :: .int .i64 0 :: .slice none 0 0 :: .slice none 0 0 :: .int .i64 0 :: .int .i64 0 :: .int .i64 0 :: .int .i64 0 :: .int .i64 0 :: .int .i64 0 :: .int .i64 0 :: .int .i64 0 :: .string ⟨#[]⟩ :: .string ⟨#[]⟩ :: .slice none 0 0 :: .int .i64 0 :: .int .i64 0 :: .int .i64 0 :: .int .i64 0 :: .int .i64 0 :: .int .i64 0 :: .slice none 0 0 :: .slice none 0 0 :: []).toArray 36 (0, 0))) := Cl.new w3 (.int .i64 0 :: .int .i64 0 :: .int .i64 0 :: .int .i64 0 :: .int .i64 0 :: .int .i64 0 :: .int .i64 0 :: .int .i64 0 :: .int .i64 0 :: .slice none 0 0 :: .int .i64 0 :: .slice none 0 0 :: .int .i64 0 :: .int .i64 0 :: .int .i64 0 :: .int .i64 0 :: .int .i64 0 :: .slice none 0 0 :: .slice none 0 0 :: .int .i64 0 :: .int .i64 0 :: .int .i64 0 :: .int .i64 0 :: .int .i64 0 :: .int .i64 0 :: .int .i64 0 :: .int .i64 0 :: .string ⟨#[]⟩ :: .string ⟨#[]⟩ :: .slice none 0 0 :: .int .i64 0 :: .int .i64 0 :: .int .i64 0 :: .int .i64 0 :: .int .i64 0 :: .int .i64 0 :: .slice none 0 0 :: .slice none 0 0 :: []) _
        have CD1 : Hid (Cl ((w3.alloc (.cells (.int .i64 0 :: .int .i64 0 :: .int .i64 0 :: .int .i64 0 :: .int .i64 0 :: .int .i64 0 :: .int .i64 0 :: .int .i64 0 :: .int .i64 0 :: .slice none 0 0 :: .int .i64 0 :: .slice none 0 0 :: .int .i64 0 :: .int .i64 0 :: .int .i64 0 :: .int .i64 0 :: .int .i64 0 :: .slice none 0 0 :: .slice none 0 0 :: .int .i64 0 :: .int .i64 0 :: .int .i64 0 :: .int .i64 0 :: .int .i64 0 :: .int .i64 0 :: .int .i64 0 :: .int .i64 0 :: .string ⟨#[]⟩ :: .string ⟨#[]⟩ :: .slice none 0 0 :: .int .i64 0 :: .int .i64 0 :: .int .i64 0 :: .int .i64 0 :: .int .i64 0 :: .int .i64 0 :: .slice none 0 0 :: .slice none 0 0 :: []).toArray 36)).setRow w3.heap.size cd1.toArray) w3.heap.size cd1 36) := by
          have := Cl.row (Cl.new w3 (.int .i64 0 :: .int .i64 0 :: .int .i64 0 :: .int .i64 0 :: .int .i64 0 :: .int .i64 0 :: .int .i64 0 :: .int .i64 0 :: .int .i64 0 :: .slice none 0 0 :: .int .i64 0 :: .slice none 0 0 :: .int .i64 0 :: .int .i64 0 :: .int .i64 0 :: .int .i64 0 :: .int .i64 0 :: .slice none 0 0 :: .slice none 0 0 :: .int .i64 0 :: .int .i64 0 :: .int .i64 0 :: .int .i64 0 :: .int .i64 0 :: .int .i64 0 :: .int .i64 0 :: .int .i64 0 :: .string ⟨#[]⟩ :: .string ⟨#[]⟩ :: .slice none 0 0 :: .int .i64 0 :: .int .i64 0 :: .int .i64 0 :: .int .i64 0 :: .int .i64 0 :: .int .i64 0 :: .slice none 0 0 :: .slice none 0 0 :: []) 36) cd1.toArray
          rwa [List.toList_toArray] at this
        have bd1 : Hid (Below w3.heap.size w3 ((w3.alloc (.cells (.int .i64 0 :: .int .i64 0 :: .int .i64 0 :: .int .i64 0 :: .int .i64 0 :: .int .i64 0 :: .int .i64 0 :: .int .i64 0 :: .int .i64 0 :: .slice none 0 0 :: .int .i64 0 :: .slice none 0 0 :: .int .i64 0 :: .int .i64 0 :: .int .i64 0 :: .int .i64 0 :: .int .i64 0 :: .slice none 0 0 :: .slice none 0 0 :: .int .i64 0 :: .int .i64 0 :: .int .i64 0 :: .int .i64 0 :: .int .i64 0 :: .int .i64 0 :: .int .i64 0 :: .int .i64 0 :: .string ⟨#[]⟩ :: .string ⟨#[]⟩ :: .slice none 0 0 :: .int .i64 0 :: .int .i64 0 :: .int .i64 0 :: .int .i64 0 :: .int .i64 0 :: .int .i64 0 :: .slice none 0 0 :: .slice none 0 0 :: []).toArray 36)).setRow w3.heap.size cd1.toArray)) := ((Below.refl _ _).alloc (Nat.le_refl _) _).trans ((Keeps.row (S := fun j => j = w3.heap.size) _ w3.heap.size _ rfl).toBelow (by simp) (fun k hk e => by omega))
        clear hmo hmk
        go_upto_region 15 with (refine wpList_store_row (by rfl) _ _ _ (by rfl) w3.heap.size cd1.toArray (by rfl) (by rfl) 36 _ CM.out HIA1.out HSZ1.out HON1.out ?_)
        clear CM
        generalize (w3.alloc (.cells (.int .i64 0 :: .int .i64 0 :: .int .i64 0 :: .int .i64 0 :: .int .i64 0 :: .int .i64 0 :: .int .i64 0 :: .int .i64 0 :: .int .i64 0 :: .slice none 0 0 :: .int .i64 0 :: .slice none 0 0 :: .int .i64 0 :: .int .i64 0 :: .int .i64 0 :: .int .i64 0 :: .int .i64 0 :: .slice none 0 0 :: .slice none 0 0 :: .int .i64 0 :: .int .i64 0 :: .int .i64 0 :: .int .i64 0 :: .int .i64 0 :: .int .i64 0 :: .int .i64 0 :: .int .i64 0 :: .string ⟨#[]⟩ :: .string ⟨#[]⟩ :: .slice none 0 0 :: .int .i64 0 :: .int .i64 0 :: .int .i64 0 :: .int .i64 0 :: .int .i64 0 :: .int .i64 0 :: .slice none 0 0 :: .slice none 0 0 :: []).toArray 36)).setRow w3.heap.size cd1.toArray = w4 at *
        have B4 := Lib.hid (bt B3.out bd1.out)
        have M4 := Lib.hid (MO1.out.at.kept bd1.out)
        have HEN := Lib.hid (wencode_any m v1 w4 M4.out MK1.out MO1.out.cap (HLW.out _ B4.out))
        rw [wencode_yes' hg, ← HXE.out, HMV1.out] at HEN
        clear B3 bd1 MO1 HMV1 HXE
        generalize w3.heap.size = b3 at *
        have RD := Lib.hid CD1.out.range
        go_wp2_with (refine wpList_load_mid (by rfl) _ _ (by rfl) b3 0 (by rfl) cd1 _ RD.out Tryz.underlying36 (by rfl) HIL1.out ?_)
        refine HEN.out.mono ?_
        rintro e w5 ⟨rfl, hb⟩
        have B5 := Lib.hid (bt B4.out hb)
        clear hb
        go_wp2
        go_roundw
        case rel => exact ⟨k + 1, by go_num, hround, B5.out⟩
        case measure => simp [intOf]; omega
      · have hnone := decM_not h0
        have h0b : ((decM x).2 != 0) = true := by simpa using h0
        rw [hnone] at HDC
        simp only [Option.getD_none] at HDC
        generalize (decM x).2 = er at *
        clear h0 hnone
        go_wp2_with fail
        refine HDC.out.mono ?_
        rintro e w3 ⟨v1, rfl, hmo, hmk, hb⟩
        have B3 := Lib.hid (bt BZ.out hb)
        clear hb BZ HDC
        obtain ⟨cd1, hmv, HCD1, HIL1, HIA1, HON1, HSZ1⟩ := msg_cells Wi.zMsg v1 w3 hmo.at
        rw [hmv]
        have HMV1 := Lib.hid hmv
        clear hmv
        have MO1 := Lib.hid hmo
        have MK1 := Lib.hid hmk
        have CM : Hid ((w3.alloc (.cells (.int .i64 0 :: .int .i64 0 :: .int .i64 0 :: .int .i64 0 :: .int .i64 0 :: .int .i64 0 :: .int .i64 0 :: .int .i64 0 :: .int .i64 0 :: .slice none 0 0 :: .int .i64 0 :: .slice none 0 0 :: .int .i64 0 :: .int .i64 0 :: .int .i64 0 :: .int .i64 0 :: .int .i64 0 :: .slice none 0 0 :: .slice none 0 0 :: .int .i64 0 :: .int .i64 0 :: .int .i64 0 :: .int .i64 0 :: .int .i64 0 :: .int .i64 0 :: .int .i64 0 :: .int .i64 0 :: .string ⟨#[]⟩ :: .string ⟨#[]⟩ :: .slice none 0 0 :: .int .i64 0 :: .int .i64 0 :: .int .i64 0 :: .int .i64 0 :: .int .i64 0 :: .int .i64 0 :: .slice none 0 0 :: .slice none 0 0 :: []).toArray 36)).heap[w3.heap.size]? = some (.cells (.int .i64 0 :: .int .i64 0 :: .int .i64 0 :: .int .i64 0 :: .int .i64 0 :: .int .i64 0 :: .int .i64 0 :: .int .i64 0 :: .int .i64 0 :: .slice none 0 0 :: .int .i64 0 :: .slice none 0 0 :: .int .i64 0 :: .int .i64 0 :: .int .i64 0 :: .int .i64 0 :: .int .i64 0 :: .slice none 0 0 :: .slice none 0 0 :: .int .i64 0 :: .int .i64 0 :: .int .i64 0 :: .int .i64 0 :: .int .i64 0 :: .int .i64 0 :: .int .i64 0 :: .int .i64 0 :: .string ⟨#[]⟩ :: .string ⟨#[]⟩ :: .slice none 0 0 :: .int .i64 0 :: .int .i64 0 :: .int .i64 0 :: .int .i64 0 :: .int .i64 0 :: .int .i64 0 :: .slice none 0 0 :: .slice none 0 0 :: []).toArray 36 (0, 0))) := Cl.new w3 (.int .i64 0 :: .int .i64 0 :: .int .i64 0 :: .int .i64 0 :: .int .i64 0 :: .int .i64 0 :: .int .i64 0 :: .int .i64 0 :: .int .i64 0 :: .slice none 0 0 :: .int .i64 0 :: .slice none 0 0 :: .int .i64 0 :: .int .i64 0 :: .int .i64 0 :: .int .i64 0 :: .int .i64 0 :: .slice none 0 0 :: .slice none 0 0 :: .int .i64 0 :: .int .i64 0 :: .int .i64 0 :: .int .i64 0 :: .int .i64 0 :: .int .i64 0 :: .int .i64 0 :: .int .i64 0 :: .string ⟨#[]⟩ :: .string ⟨#[]⟩ :: .slice none 0 0 :: .int .i64 0 :: .int .i64 0 :: .int .i64 0 :: .int .i64 0 :: .int .i64 0 :: .int .i64 0 :: .slice none 0 0 :: .slice none 0 0 :: []) _
        have CD1 : Hid (Cl ((w3.alloc (.cells (.int .i64 0 :: .int .i64 0 :: .int .i64 0 :: .int .i64 0 :: .int .i64 0 :: .int .i64 0 :: .int .i64 0 :: .int .i64 0 :: .int .i64 0 :: .slice none 0 0 :: .int .i64 0 :: .slice none 0 0 :: .int .i64 0 :: .int .i64 0 :: .int .i64 0 :: .int .i64 0 :: .int .i64 0 :: .slice none 0 0 :: .slice none 0 0 :: .int .i64 0 :: .int .i64 0 :: .int .i64 0 :: .int .i64 0 :: .int .i64 0 :: .int .i64 0 :: .int .i64 0 :: .int .i64 0 :: .string ⟨#[]⟩ :: .string ⟨#[]⟩ :: .slice none 0 0 :: .int .i64 0 :: .int .i64 0 :: .int .i64 0 :: .int .i64 0 :: .int .i64 0 :: .int .i64 0 :: .slice none 0 0 :: .slice none 0 0 :: []).toArray 36)).setRow w3.heap.size cd1.toArray) w3.heap.size cd1 36) := by
          have := Cl.row (Cl.new w3 (.int .i64 0 :: .int .i64 0 :: .int .i64 0 :: .int .i64 0 :: .int .i64 0 :: .int .i64 0 :: .int .i64 0 :: .int .i64 0 :: .int .i64 0 :: .slice none 0 0 :: .int .i64 0 :: .slice none 0 0 :: .int .i64 0 :: .int .i64 0 :: .int .i64 0 :: .int .i64 0 :: .int .i64 0 :: .slice none 0 0 :: .slice none 0 0 :: .int .i64 0 :: .int .i64 0 :: .int .i64 0 :: .int .i64 0 :: .int .i64 0 :: .int .i64 0 :: .int .i64 0 :: .int .i64 0 :: .string ⟨#[]⟩ :: .string ⟨#[]⟩ :: .slice none 0 0 :: .int .i64 0 :: .int .i64 0 :: .int .i64 0 :: .int .i64 0 :: .int .i64 0 :: .int .i64 0 :: .slice none 0 0 :: .slice none 0 0 :: []) 36) cd1.toArray
          rwa [List.toList_toArray] at this
        have bd1 : Hid (Below w3.heap.size w3 ((w3.alloc (.cells (.int .i64 0 :: .int .i64 0 :: .int .i64 0 :: .int .i64 0 :: .int .i64 0 :: .int .i64 0 :: .int .i64 0 :: .int .i64 0 :: .int .i64 0 :: .slice none 0 0 :: .int .i64 0 :: .slice none 0 0 :: .int .i64 0 :: .int .i64 0 :: .int .i64 0 :: .int .i64 0 :: .int .i64 0 :: .slice none 0 0 :: .slice none 0 0 :: .int .i64 0 :: .int .i64 0 :: .int .i64 0 :: .int .i64 0 :: .int .i64 0 :: .int .i64 0 :: .int .i64 0 :: .int .i64 0 :: .string ⟨#[]⟩ :: .string ⟨#[]⟩ :: .slice none 0 0 :: .int .i64 0 :: .int .i64 0 :: .int .i64 0 :: .int .i64 0 :: .int .i64 0 :: .int .i64 0 :: .slice none 0 0 :: .slice none 0 0 :: []).toArray 36)).setRow w3.heap.size cd1.toArray)) := ((Below.refl _ _).alloc (Nat.le_refl _) _).trans ((Keeps.row (S := fun j => j = w3.heap.size) _ w3.heap.size _ rfl).toBelow (by simp) (fun k hk e => by omega))
        clear hmo hmk
        go_upto_region 15 with (refine wpList_store_row (by rfl) _ _ _ (by rfl) w3.heap.size cd1.toArray (by rfl) (by rfl) 36 _ CM.out HIA1.out HSZ1.out HON1.out ?_)
        clear CM
        generalize (w3.alloc (.cells (.int .i64 0 :: .int .i64 0 :: .int .i64 0 :: .int .i64 0 :: .int .i64 0 :: .int .i64 0 :: .int .i64 0 :: .int .i64 0 :: .int .i64 0 :: .slice none 0 0 :: .int .i64 0 :: .slice none 0 0 :: .int .i64 0 :: .int .i64 0 :: .int .i64 0 :: .int .i64 0 :: .int .i64 0 :: .slice none 0 0 :: .slice none 0 0 :: .int .i64 0 :: .int .i64 0 :: .int .i64 0 :: .int .i64 0 :: .int .i64 0 :: .int .i64 0 :: .int .i64 0 :: .int .i64 0 :: .string ⟨#[]⟩ :: .string ⟨#[]⟩ :: .slice none 0 0 :: .int .i64 0 :: .int .i64 0 :: .int .i64 0 :: .int .i64 0 :: .int .i64 0 :: .int .i64 0 :: .slice none 0 0 :: .slice none 0 0 :: []).toArray 36)).setRow w3.heap.size cd1.toArray = w4 at *
        have B4 := Lib.hid (bt B3.out bd1.out)
        have M4 := Lib.hid (MO1.out.at.kept bd1.out)
        have HSM := Lib.hid (wsame_any Wi.zMsg Wi.zMsg v1 zeroV w4 M4.out (zero_at w4) zMsg_ok zMsg_ok)
        rw [Wi.same_refl, HMV1.out, HZ0.out] at HSM
        clear B3 bd1 MO1 HMV1
        generalize w3.heap.size = b3 at *
        have RD := Lib.hid CD1.out.range
        go_wp2_with (refine wpList_load_mid (by rfl) _ _ (by rfl) b3 0 (by rfl) cd1 _ RD.out Tryz.underlying36 (by rfl) HIL1.out ?_)
        refine HSM.out.mono ?_
        rintro e w5 ⟨rfl, hb⟩
        have B5 := Lib.hid (bt B4.out hb)
        clear hb
        go_wp2
        go_roundw
        case rel => exact ⟨k + 1, by go_num, hround, B5.out⟩
        case measure => simp [intOf]; omega
end Go.Proofs.YtjfpbeccpcbpcaaGreatDoor
