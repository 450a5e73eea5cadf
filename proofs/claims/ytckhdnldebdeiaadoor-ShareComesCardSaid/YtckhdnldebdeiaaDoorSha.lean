/-
  Share: the law's awake: the document's examples hold of the program.
  Conditions: none.
-/
import Derived.Test.YtckhdnldebdeiaaDoorShz
set_option linter.unusedVariables false
set_option linter.unusedSimpArgs false
namespace Go.Proofs.YtckhdnldebdeiaaDoor
open Go.RowKit

theorem ex_ass : Sh.ass 4 [[97], [98]] = [[97], [97], [98]] := by decide
theorem ex_own : ownerAt [[97], [97], [98]] 3 = ([98], true) := by decide
theorem ex_parts : Sh.partsOf [97] 1 [[97], [97], [98]] = [1, 2] := by decide
theorem ex_good : Sh.good [[97], [98]] = true := by decide
theorem ex_bad : Sh.good [[98], [97]] = false := by decide
theorem two_txts (w : World) (x y : Sh.Nm) : Txts (w.alloc (.cells #[.string ⟨x.toArray⟩, .string ⟨y.toArray⟩] 9)) (.slice (some ⟨w.heap.size, 0, none⟩) 2 2) [x, y] := by
  refine ⟨_, 2, rfl, fun i hi => ⟨w.heap.size, 0, rfl, by simp, ?_⟩⟩
  rw [Nat.zero_add, cell_of_row (w.alloc _) w.heap.size i _ _ (0, 0) (heap_alloc_new w _)]
  match i, hi with
  | 0, _ => rfl
  | 1, _ => rfl
theorem two_ints (w : World) (x y : Int) : Ints (w.alloc (.cells #[.int .i64 x, .int .i64 y] 3)) (.slice (some ⟨w.heap.size, 0, none⟩) 2 2) [x, y] := by
  refine ⟨_, 2, rfl, fun i hi => ⟨w.heap.size, 0, rfl, by simp, ?_⟩⟩
  rw [Nat.zero_add, cell_of_row (w.alloc _) w.heap.size i _ _ (0, 0) (heap_alloc_new w _)]
  match i, hi with
  | 0, _ => rfl
  | 1, _ => rfl
set_option maxHeartbeats 3200000 in
theorem awake_any (w : World) : Calls Tryd.prog 6 #[] w fun e w' => e = .returned (.bool true) ∧ Below w.heap.size w w' := by
  have hT0 := two_txts w [97] [98]
  have hB0 : Below w.heap.size w (w.alloc (.cells #[.string ⟨[97].toArray⟩, .string ⟨[98].toArray⟩] 9)) := (Below.refl _ _).alloc (Nat.le_refl _) _
  have HT0 := Lib.hid hT0
  have HB0 := Lib.hid hB0
  clear hT0 hB0
  have hsz : (w.alloc (.cells #[.string ⟨[97].toArray⟩, .string ⟨[98].toArray⟩] 9)).heap.size = w.heap.size + 1 := World.size_alloc _ _
  go_enter Tryd.func6, Tryd.ntmps6
  go_wp2_with fail
  obtain ⟨w1, hw1⟩ : ∃ W, w.alloc (.cells #[.string ⟨[97].toArray⟩, .string ⟨[98].toArray⟩] 9) = W := ⟨_, rfl⟩
  have e1 : w.alloc (.cells #[.string ⟨#[97]⟩, .string ⟨#[98]⟩] 9) = w1 := hw1
  simp only [hw1, e1] at HT0 HB0 hsz ⊢
  have HT : Hid (∀ W, Below w1.heap.size w1 W → Txts W (.slice (some ⟨w.heap.size, 0, none⟩) 2 2) [[97], [98]]) := fun W hb => HT0.out.kept hb
  have hA := assign_any 4 (by decide) (by decide) _ _ w1 HT0.out (by decide) (by decide)
  rw [ex_ass] at hA
  refine hA.mono ?_
  clear hA
  rintro e w2 ⟨o, rfl, ho, hb2⟩
  have B2 := Lib.hid hb2
  obtain ⟨ao, capo, rfl, _, hcm, hoc⟩ := ho.read
  unfold maxLen at hcm
  have HO := Lib.hid ho
  clear hb2 ho
  have hO := owner_any 4 (by decide) (by decide) (.slice (some ⟨w.heap.size, 0, none⟩) 2 2) [[97], [98]] 3 w2 (HT.out _ B2.out) (by decide) (by decide)
  rw [ex_ass, ex_own] at hO
  go_wp2_with fail
  refine hO.mono ?_
  clear hO
  rintro e w3 ⟨rfl, hb3⟩
  have B3 := Lib.hid hb3
  clear hb3
  obtain ⟨g, rfl, hg, hgb, _, hm1⟩ := hoc 1 (by decide)
  obtain ⟨g2, e2, _, _, hp2, _⟩ := hoc 2 (by decide)
  cases e2
  have hc1 := (B3.out.cell (p := ⟨g, 1 * 2 + 1, none⟩) hg).trans hm1
  have hc2 := (B3.out.cell (p := ⟨g, 2 * 2, none⟩) hg).trans hp2
  clear hoc hm1 hp2
  simp at hc1 hc2
  have BW : Hid (Below w1.heap.size w1 w3) := B2.out.trans (B3.out.mono B2.out.size)
  go_wp2_with fail
  have hP := parts_any 4 (by decide) (by decide) (.slice (some ⟨w.heap.size, 0, none⟩) 2 2) [[97], [98]] [97] w3 (HT.out _ BW.out) (by decide) (by decide)
  rw [ex_ass, ex_parts] at hP
  refine hP.mono ?_
  clear hP
  rintro e w4 ⟨oP, rfl, hI, hb4⟩
  have B4 : Hid (Below w1.heap.size w1 w4) := BW.out.trans (hb4.mono BW.out.size)
  have HI := Lib.hid hI.ints
  clear hb4 hI hc1 hc2
  have I4 : Hid (Ints (w4.alloc (.cells #[.int .i64 1, .int .i64 2] 3)) oP [1, 2]) := HI.out.kept ((Below.refl _ _).alloc (Nat.le_refl _) _)
  have J4 := Lib.hid (two_ints w4 1 2)
  have B5 : Hid (Below w1.heap.size w1 (w4.alloc (.cells #[.int .i64 1, .int .i64 2] 3))) := B4.out.alloc B4.out.size _
  go_wp2_with fail
  generalize w4.alloc (.cells #[.int .i64 1, .int .i64 2] 3) = w5 at *
  refine (ints_same oP _ [1, 2] w5 I4.out J4.out (by decide)).mono ?_
  rintro e w6 ⟨rfl, n6, rfl⟩
  have B6 := Lib.hid (below_drewN B5.out n6)
  clear I4 J4 HI B4 B5
  generalize w5.drewN n6 = w6 at *
  have hG := good_any (.slice (some ⟨w.heap.size, 0, none⟩) 2 2) [[97], [98]] w6 (HT.out _ B6.out) (by decide) (by decide)
  rw [ex_good] at hG
  go_wp2_with fail
  refine hG.mono ?_
  clear hG
  rintro e w7 ⟨rfl, hb7⟩
  have B7 : Hid (Below w1.heap.size w1 w7) := B6.out.trans (hb7.mono B6.out.size)
  clear hb7
  have hT7 := two_txts w7 [98] [97]
  have B8 : Hid (Below w1.heap.size w1 (w7.alloc (.cells #[.string ⟨[98].toArray⟩, .string ⟨[97].toArray⟩] 9))) := B7.out.alloc B7.out.size _
  go_wp2_with fail
  obtain ⟨w8, hw8⟩ : ∃ W, w7.alloc (.cells #[.string ⟨[98].toArray⟩, .string ⟨[97].toArray⟩] 9) = W := ⟨_, rfl⟩
  have e8 : w7.alloc (.cells #[.string ⟨#[98]⟩, .string ⟨#[97]⟩] 9) = w8 := hw8
  rw [hw8] at hT7 B8
  try rw [e8]
  have hG := good_any (.slice (some ⟨w7.heap.size, 0, none⟩) 2 2) [[98], [97]] w8 hT7 (by decide) (by decide)
  rw [ex_bad] at hG
  refine hG.mono ?_
  clear hG
  rintro e w9 ⟨rfl, hb9⟩
  have B9 : Hid (Below w1.heap.size w1 w9) := B8.out.trans (hb9.mono B8.out.size)
  clear hb9
  go_wp2
  go_ret
  exact ⟨rfl, HB0.out.trans (B9.out.mono HB0.out.size)⟩

end Go.Proofs.YtckhdnldebdeiaaDoor
