/-
  BeadMost: the walk.
  Conditions: the library's variables hold what they are laid with.
-/
import Derived.Test.YtikngajopmogcaaDoorBa
set_option linter.unusedVariables false
set_option linter.unusedSimpArgs false
namespace Go.Proofs.YtikngajopmogcaaDoor
open Go.RowKit

theorem bText_length (s : List UInt8) (h : s.length ≤ 4096) : (Bd.bText s).length ≤ 4200 := by
  have hl := Lib.itoa_length_le (s.length : Int) (by omega) (by omega)
  simp [Bd.bText]
  omega
set_option maxHeartbeats 800000 in
theorem most_walk (s : List UInt8) (hs : s.length ≤ maxLen) (most : Int) (w : World) (hw : Lw w) :
    Calls Tryd.prog 10 #[.string ⟨s.toArray⟩, .int .i64 most] w fun e w' => e = .returned (.bool true) ∧ Below w.heap.size w w' := by
  unfold maxLen at hs
  have HW := Lib.hid hw
  clear hw
  by_cases h0 : s.length ≤ 4096
  · have hl := bText_length s h0
    have HX : Hid (Bd.bText s ++ [] = Bd.bText s) := by simp [Hid]
    go_enter Tryd.func10, Tryd.ntmps10
    go_wp2_with fail
    refine (awake_any _ HW.out).mono ?_
    rintro e w1 ⟨rfl, hb1⟩
    have B1 := Lib.hid hb1
    clear hb1
    go_wp2_with fail
    refine (beadText_any s (by omega) _ (HW.out.below B1.out)).mono ?_
    rintro e w2 ⟨rfl, hb2⟩
    have B2 := Lib.hid (bt B1.out hb2)
    clear hb2 B1
    go_wp2_with fail
    refine (new_any _ _).mono ?_
    rintro e w4 ⟨rfl, rfl⟩
    have B5 : Hid (Below w.heap.size w (w2.alloc (.cells #[.string ⟨(Bd.bText s).toArray⟩, .bool false] 53))) := B2.out.alloc B2.out.size _
    have R5 := Lib.hid (Rd.new (Bd.bText s) w2)
    have hp := B2.out.size
    generalize w2.alloc (.cells #[.string ⟨(Bd.bText s).toArray⟩, .bool false] 53) = w5 at *
    generalize w2.heap.size = p at *
    clear B2
    go_wp2_with fail
    refine (text_any _ most _ _ R5.out (by simp only; omega) (HW.out.below B5.out)).mono ?_
    rintro e w7 ⟨rfl, h7⟩
    have B7 := Lib.hid (h7.bel B5.out hp)
    by_cases hm : (s.length : Int) ≤ most
    · have e1 : Bd.sText most (Bd.bText s, false) = (s, ([], false)) := by
        have := Bd.sText_of s [] hm (by omega)
        rwa [HX.out] at this
      rw [e1] at h7 ⊢
      have R7 := Lib.hid h7.1
      have hss : (s == s) = true := by simp
      clear h7 B5 R5 hl HX e1
      go_wp2_with fail
      refine (done_any _ _ _ R7.out).mono ?_
      rintro e w8 ⟨rfl, rfl⟩
      rw [show Bd.sDone ([], false) = 0 from rfl]
      go_wp2
      go_ret
      exact ⟨rfl, B7.out⟩
    · have e1 : Bd.sText most (Bd.bText s, false) = ([], (Bd.bText s, true)) := by
        have hn : Bd.rdText most (Bd.bText s) = none := by
          cases hr : Bd.rdText most (Bd.bText s) with
          | none => rfl
          | some x =>
            obtain ⟨t, r⟩ := x
            obtain ⟨h1, h2⟩ := Bd.rdText_some hr
            have h3 := Bd.rdText_of (most := 9223372036854775807) s [] (by omega) (by omega)
            have h4 := Bd.rdText_of (most := 9223372036854775807) t r (by have := congrArg List.length h2; simp [Bd.bText] at this; omega) (by have := congrArg List.length h2; simp [Bd.bText] at this; omega)
            rw [HX.out] at h3
            rw [← h2, h3] at h4
            simp only [Option.some.injEq, Prod.mk.injEq] at h4
            rw [h4.1] at hm
            omega
        simp [Bd.sText, hn]
      rw [e1] at h7 ⊢
      have R7 := Lib.hid h7.1
      clear h7 B5 R5 hl HX e1
      go_wp2_with fail
      refine (done_any _ _ _ R7.out).mono ?_
      rintro e w8 ⟨rfl, rfl⟩
      rw [Bd.sDone_bad]
      go_wp2
      go_ret
      exact ⟨rfl, B7.out⟩
  · go_enter Tryd.func10, Tryd.ntmps10
    go_wp2_with fail
    refine (awake_any _ HW.out).mono ?_
    rintro e w1 ⟨rfl, hb1⟩
    have B1 := Lib.hid hb1
    clear hb1
    go_wp2
    go_ret
    exact ⟨rfl, B1.out⟩

end Go.Proofs.YtikngajopmogcaaDoor
