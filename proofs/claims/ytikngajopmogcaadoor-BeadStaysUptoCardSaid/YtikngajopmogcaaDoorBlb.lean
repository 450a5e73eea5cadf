/-
  BeadStays: the walk.
  Conditions: the library's variables hold what they are laid with; the text has at most 2^20 bytes.
-/
import Derived.Test.YtikngajopmogcaaDoorBa
import Derived.Test.YtikngajopmogcaaDoorBo
set_option linter.unusedVariables false
set_option linter.unusedSimpArgs false
namespace Go.Proofs.YtikngajopmogcaaDoor
open Go.RowKit

theorem x_bad (s : List UInt8) : Bd.sInt (120 :: s, false) = (0, (120 :: s, true)) := by
  have h : Bd.rdInt (120 :: s) = none := by
    cases hr : Bd.rdInt (120 :: s) with
    | none => rfl
    | some x =>
      obtain ⟨n, r⟩ := x
      have := Bd.rdInt_head hr
      simp at this
  simp [Bd.sInt, h]
set_option maxHeartbeats 2000000 in
theorem stays_walk (s : List UInt8) (hs : s.length ≤ 1048576) (v : Value) (zs : List (Int × Int)) (w : World) (hz : Asks w v zs) (hm : zs.length ≤ maxLen) (hw : Lw w) :
    Calls Tryd.prog 8 #[.string ⟨s.toArray⟩, v] w fun e w' => e = .returned (.bool true) ∧ Below w.heap.size w w' := by
  have HZ := Lib.hid hz
  obtain ⟨a, cap, rfl, _⟩ := hz
  unfold maxLen at hm
  have HW := Lib.hid hw
  clear hw
  have hcat : ∀ l : List UInt8, (⟨#[120]⟩ : ByteArray) ++ ⟨l.toArray⟩ = ⟨(120 :: l).toArray⟩ := fun l => bs_append [120] l
  go_enter Tryd.func8, Tryd.ntmps8
  go_wp2_with fail
  refine (awake_any _ HW.out).mono ?_
  rintro e w1 ⟨rfl, hb1⟩
  have B1 := Lib.hid hb1
  clear hb1
  go_wp2_with fail
  refine (new_any (120 :: s) _).mono ?_
  rintro e w4 ⟨rfl, rfl⟩
  have B5 : Hid (Below w.heap.size w (w1.alloc (.cells #[.string ⟨(120 :: s).toArray⟩, .bool false] 53))) := B1.out.alloc B1.out.size _
  have R5 := Lib.hid (Rd.new (120 :: s) w1)
  have hp := B1.out.size
  generalize w1.alloc (.cells #[.string ⟨(120 :: s).toArray⟩, .bool false] 53) = w5 at *
  generalize w1.heap.size = p at *
  clear B1 hcat
  go_wp2_with fail
  refine (int_any _ _ _ R5.out (by simp; omega) (HW.out.below B5.out)).mono ?_
  rintro e w6 ⟨rfl, h6⟩
  rw [x_bad] at h6 ⊢
  have B6 := Lib.hid (h6.bel B5.out hp)
  have R6 := Lib.hid h6.1
  clear h6 B5 R5
  generalize 120 :: s = t at *
  go_wp2_with fail
  refine (done_any _ _ _ R6.out).mono ?_
  rintro e w7 ⟨rfl, rfl⟩
  rw [Bd.sDone_bad]
  go_wp2
  go_loopw [6] (fun i wr => ∃ k : Nat, i = .int .i64 k ∧ k ≤ zs.length ∧ k ≤ 100 ∧ Rd wr p (t, true) ∧ Below w.heap.size w wr) (fun i _ => zs.length - (intOf i).toNat)
  case atStart => exact ⟨0, rfl, by omega, by omega, R6.out, B6.out⟩
  case round =>
    obtain ⟨k, rfl, hk, hk100, hr, hb⟩ := hrel
    have HR := Lib.hid hr
    have HB := Lib.hid hb
    clear hr hb R6 B6
    by_cases hc : k < zs.length ∧ k < 100
    · obtain ⟨hlt, hlt1⟩ := hc
      obtain ⟨a', cap', he, hcells⟩ := HZ.out.kept HB.out
      injection he with he1 he2 he3
      subst he1 he3
      obtain ⟨g, off, rfl, hg, hc1, hc2⟩ := hcells k hlt
      clear hcells he2
      generalize zs.getD k (0, 0) = q at hc1 hc2
      obtain ⟨q1, q2⟩ := q
      simp only at hc1 hc2
      by_cases k1 : q1 = 1
      · subst k1
        go_wp2_with fail
        refine (int_bad p t _ HR.out).mono ?_
        rintro e w8 ⟨rfl, rfl⟩
        go_wp2
        go_roundw
        case rel => exact ⟨k + 1, by go_num, by omega, by omega, HR.out, HB.out⟩
        case measure => simp [intOf]; omega
      have t1 : (q1 == 1) = false := beq_eq_false_iff_ne.2 k1
      by_cases k2 : q1 = 2
      · subst k2
        go_wp2_with fail
        refine (text_bad p q2 t _ HR.out).mono ?_
        rintro e w8 ⟨rfl, rfl⟩
        go_wp2
        go_roundw
        case rel => exact ⟨k + 1, by go_num, by omega, by omega, HR.out, HB.out⟩
        case measure => simp [intOf]; omega
      have t2 : (q1 == 2) = false := beq_eq_false_iff_ne.2 k2
      by_cases k3 : q1 = 3
      · subst k3
        go_wp2_with fail
        refine (open_any p _ _ HR.out).mono ?_
        rintro e w8 ⟨rfl, h8⟩
        rw [Bd.sSign_bad] at h8
        have B8 := Lib.hid (h8.bel HB.out hp)
        have R8 := Lib.hid h8.1
        clear h8
        go_wp2
        go_roundw
        case rel => exact ⟨k + 1, by go_num, by omega, by omega, R8.out, B8.out⟩
        case measure => simp [intOf]; omega
      have t3 : (q1 == 3) = false := beq_eq_false_iff_ne.2 k3
      by_cases k4 : q1 = 4
      · subst k4
        go_wp2_with fail
        refine (more_any p _ _ HR.out).mono ?_
        rintro e w8 ⟨rfl, rfl⟩
        rw [Bd.sMore_bad]
        go_wp2
        go_roundw
        case rel => exact ⟨k + 1, by go_num, by omega, by omega, HR.out, HB.out⟩
        case measure => simp [intOf]; omega
      have t4 : (q1 == 4) = false := beq_eq_false_iff_ne.2 k4
      by_cases k5 : q1 = 5
      · subst k5
        go_wp2_with fail
        refine (close_any p _ _ HR.out).mono ?_
        rintro e w8 ⟨rfl, h8⟩
        rw [Bd.sSign_bad] at h8
        have B8 := Lib.hid (h8.bel HB.out hp)
        have R8 := Lib.hid h8.1
        clear h8
        go_wp2
        go_roundw
        case rel => exact ⟨k + 1, by go_num, by omega, by omega, R8.out, B8.out⟩
        case measure => simp [intOf]; omega
      have t5 : (q1 == 5) = false := beq_eq_false_iff_ne.2 k5
      clear k1 k2 k3 k4 k5
      go_wp2
      go_roundw
      case rel => exact ⟨k + 1, by go_num, by omega, by omega, HR.out, HB.out⟩
      case measure => simp [intOf]; omega
    · have hor : k = zs.length ∨ (k = 100 ∧ 100 < zs.length) := by omega
      clear hc
      rcases hor with rfl | ⟨rfl, hgt⟩
      all_goals
        go_wp2_with fail
        refine (open_nil _).mono ?_
        rintro e w8 ⟨rfl, rfl⟩
        go_wp2_with fail
        refine (close_nil _).mono ?_
        rintro e w8 ⟨rfl, rfl⟩
        go_wp2_with fail
        refine (done_any _ _ _ HR.out).mono ?_
        rintro e w8 ⟨rfl, rfl⟩
        rw [Bd.sDone_bad]
        go_wp2_with fail
        refine (done_nil _).mono ?_
        rintro e w8 ⟨rfl, rfl⟩
        go_wp2_with fail
        refine (int_nil _).mono ?_
        rintro e w8 ⟨rfl, rfl⟩
        go_wp2_with fail
        refine (text_nil _ _).mono ?_
        rintro e w8 ⟨rfl, rfl⟩
        go_wp2_with fail
        refine (more_nil _).mono ?_
        rintro e w8 ⟨rfl, rfl⟩
        go_wp2
        go_ret
        exact ⟨rfl, HB.out⟩

end Go.Proofs.YtikngajopmogcaaDoor
