/-
  The law's awake: the document's examples hold of the program.
  Conditions: the library's variables hold what they are laid with.
-/
import Derived.Test.YtikngajopmogcaaDoorBwe
set_option linter.unusedVariables false
set_option linter.unusedSimpArgs false
namespace Go.Proofs.YtikngajopmogcaaDoor
open Go.RowKit

theorem st1 : Bd.sSign 108 ([108, 105, 49, 101, 48, 58, 101], false) = ([105, 49, 101, 48, 58, 101], false) := Bd.sSign_of 108 _
theorem st2 : Bd.sInt ([105, 49, 101, 48, 58, 101], false) = (1, ([48, 58, 101], false)) := by
  have := Bd.sInt_of (n := 1) [48, 58, 101] ⟨by decide, by decide⟩
  rwa [bInt_1] at this
theorem st3 : Bd.sText 0 ([48, 58, 101], false) = ([], ([101], false)) := by
  have := Bd.sText_of (most := 0) [] [101] (by decide) (by decide)
  rwa [bText_nil] at this
theorem st5 : Bd.sSign 101 ([101], false) = ([], false) := Bd.sSign_of 101 _

set_option maxHeartbeats 1000000 in
theorem awake_any (w : World) (hw : Lw w) : Calls Tryd.prog 11 #[] w fun e w' => e = .returned (.bool true) ∧ Below w.heap.size w w' := by
  have HW := Lib.hid hw
  clear hw
  go_enter Tryd.func11, Tryd.ntmps11
  go_wp2_with fail
  refine (beadInt_any 1 ⟨by decide, by decide⟩ _ HW.out).mono ?_
  rintro e w1 ⟨rfl, hb1⟩
  have B1 := Lib.hid hb1
  clear hb1
  rw [bInt_1]
  go_wp2_with fail
  refine (beadText_any [] (by simp) _ (HW.out.below B1.out)).mono ?_
  rintro e w2 ⟨rfl, hb2⟩
  have B2 := Lib.hid (bt B1.out hb2)
  clear hb2 B1
  rw [bText_nil]
  go_wp2_with fail
  have B3 : Hid (Below w.heap.size w (w2.alloc (.cells #[.string ⟨[105, 49, 101].toArray⟩, .string ⟨[48, 58].toArray⟩] 9))) := B2.out.alloc B2.out.size _
  refine (beadList_any _ [[105, 49, 101], [48, 58]] _ (strs_new w2 [[105, 49, 101], [48, 58]] 9) (by decide) (by decide)).mono ?_
  rintro e w3 ⟨rfl, hb3⟩
  have B4 := Lib.hid (bt B3.out hb3)
  clear hb3 B2 B3
  rw [show (108 :: (List.flatten [[105, 49, 101], [48, 58]] ++ [101]) : List UInt8) = [108, 105, 49, 101, 48, 58, 101] from rfl]
  go_wp2_with fail
  refine (new_any _ _).mono ?_
  rintro e w4 ⟨rfl, rfl⟩
  have B5 : Hid (Below w.heap.size w (w3.alloc (.cells #[.string ⟨[108, 105, 49, 101, 48, 58, 101].toArray⟩, .bool false] 53))) := B4.out.alloc B4.out.size _
  have R5 := Lib.hid (Rd.new [108, 105, 49, 101, 48, 58, 101] w3)
  have hp := B4.out.size
  generalize w3.alloc (.cells #[.string ⟨[108, 105, 49, 101, 48, 58, 101].toArray⟩, .bool false] 53) = w5 at *
  generalize w3.heap.size = p at *
  clear B4
  go_wp2_with fail
  refine (open_any _ _ _ R5.out).mono ?_
  rintro e w6 ⟨rfl, h6⟩
  rw [st1] at h6
  have B6 := Lib.hid (h6.bel B5.out hp)
  have R6 := Lib.hid h6.1
  clear h6 B5 R5
  go_wp2_with fail
  refine (int_any _ _ _ R6.out (by decide) (HW.out.below B6.out)).mono ?_
  rintro e w7 ⟨rfl, h7⟩
  rw [st2] at h7 ⊢
  have B7 := Lib.hid (h7.bel B6.out hp)
  have R7 := Lib.hid h7.1
  clear h7 B6 R6
  go_wp2_with fail
  refine (text_any _ _ _ _ R7.out (by decide) (HW.out.below B7.out)).mono ?_
  rintro e w8 ⟨rfl, h8⟩
  rw [st3] at h8 ⊢
  have B8 := Lib.hid (h8.bel B7.out hp)
  have R8 := Lib.hid h8.1
  clear h8 B7 R7
  go_wp2_with fail
  refine (more_any _ _ _ R8.out).mono ?_
  rintro e w9 ⟨rfl, rfl⟩
  rw [show Bd.sMore ([101], false) = false from rfl]
  go_wp2_with fail
  refine (close_any _ _ _ R8.out).mono ?_
  rintro e w9 ⟨rfl, h9⟩
  rw [st5] at h9
  have B9 := Lib.hid (h9.bel B8.out hp)
  have R9 := Lib.hid h9.1
  clear h9 B8 R8
  go_wp2_with fail
  refine (beadInt_any (-5) ⟨by decide, by decide⟩ _ (HW.out.below B9.out)).mono ?_
  rintro e w10 ⟨rfl, h10⟩
  have B10 := Lib.hid (bt B9.out h10)
  have R10 := Lib.hid (R9.out.below h10)
  clear h10 B9 R9
  rw [bInt_m5]
  go_wp2_with fail
  refine (beadText_any [104, 105] (by simp) _ (HW.out.below B10.out)).mono ?_
  rintro e w11 ⟨rfl, h11⟩
  have B11 := Lib.hid (bt B10.out h11)
  have R11 := Lib.hid (R10.out.below h11)
  clear h11 B10 R10
  rw [bText_hi]
  go_wp2_with fail
  refine (done_any _ _ _ R11.out).mono ?_
  rintro e w12 ⟨rfl, rfl⟩
  rw [show Bd.sDone ([], false) = 0 from rfl]
  go_wp2_with fail
  refine (new_any [120] _).mono ?_
  rintro e w12 ⟨rfl, rfl⟩
  have B12 : Hid (Below w.heap.size w (w11.alloc (.cells #[.string ⟨[120].toArray⟩, .bool false] 53))) := B11.out.alloc B11.out.size _
  have R12 := Lib.hid (Rd.new [120] w11)
  generalize w11.alloc (.cells #[.string ⟨[120].toArray⟩, .bool false] 53) = w12 at *
  go_wp2_with fail
  refine (done_any _ _ _ R12.out).mono ?_
  rintro e w13 ⟨rfl, rfl⟩
  rw [show Bd.sDone ([120], false) = 3 from rfl]
  go_wp2
  go_ret
  exact ⟨rfl, B12.out⟩

end Go.Proofs.YtikngajopmogcaaDoor
