/-
  Agent: which calls can be.
  Conditions: none.
-/
import Derived.Test.YtkjbhkillkbcgaaDoorAd
import Derived.Test.YtkjbhkillkbcgaaDoorAe
import Derived.Test.YtkjbhkillkbcgaaDoorAf
import Derived.Test.YtkjbhkillkbcgaaDoorShw
set_option linter.unusedVariables false
set_option linter.unusedSimpArgs false
namespace Go.Proofs.YtkjbhkillkbcgaaDoor
open Go.RowKit

theorem one_txt (w : World) (x : List UInt8) : Txts (w.alloc (.cells #[.string ⟨x.toArray⟩] 9)) (.slice (some ⟨w.heap.size, 0, none⟩) 1 1) [x] := by
  refine ⟨_, 1, rfl, fun i hi => ⟨w.heap.size, 0, rfl, by simp, ?_⟩⟩
  rw [Nat.zero_add, cell_of_row (w.alloc _) w.heap.size i _ _ (0, 0) (heap_alloc_new w _)]
  match i, hi with
  | 0, _ => rfl
theorem right_start {w : World} (x : CallS) (a : Option Addr) (l cap : Nat) (kind : Int) (part off max : Int) (group : List UInt8) :
    ∃ w1, w.alloc (.cells #[.int .i64 kind, .int .i64 part, .int .i64 off, .int .i64 max, .string ⟨group.toArray⟩, .slice a l cap] 31) = w1 ∧
      Hid (Cl w1 w.heap.size [.int .i64 kind, .int .i64 part, .int .i64 off, .int .i64 max, .string ⟨group.toArray⟩, .slice a l cap] 31) ∧ Hid (Below w.heap.size w w1) :=
  ⟨_, rfl, Cl.new w _ _, (Below.refl _ _).alloc (Nat.le_refl _) _⟩
set_option maxRecDepth 20000 in
set_option maxHeartbeats 1600000 in
theorem right_beat (x : CallS) (a : Option Addr) (l cap : Nat) (hx : x.recs = .slice a l cap) (hk : x.kind = 5) (hl : x.group.length ≤ maxLen) (hg : Sh.good [x.group] = true) (w : World) :
    Calls Tryd.prog 13 #[callV x] w fun e w' => e = .returned (.bool true) ∧ Below w.heap.size w w' := by
  obtain ⟨kind, part, off, max, group, recs⟩ := x
  dsimp only at *
  subst hk hx
  unfold callV callC
  go_enter Tryd.func13, Tryd.ntmps13
  obtain ⟨w1, hw1, C1, B1⟩ := right_start (w := w) ⟨5, part, off, max, group, .slice a l cap⟩ a l cap 5 part off max group
  go_upto_region 1 with (fail)
  first | rw [hw1] | skip
  clear hw1
  generalize w.heap.size = p at C1 ⊢
  have x4 := C1.out.cell 4
  simp only [List.getElem?_cons_zero, List.getElem?_cons_succ] at x4
  have T1 := Lib.hid (one_txt w1 group)
  have C2 := Lib.hid (C1.out.alloc (.cells #[.string ⟨group.toArray⟩] 9))
  have B2 := Lib.hid (B1.out.alloc B1.out.size (.cells #[.string ⟨group.toArray⟩] 9))
  have HG := Lib.hid (good_any (.slice (some ⟨w1.heap.size, 0, none⟩) 1 1) [group] _ T1.out (by simp [maxLen]) (by simpa using hl))
  go_wp2_with fail
  refine HG.out.mono ?_
  clear HG T1
  rintro e w3 ⟨rfl, hb3⟩
  have C3 := Lib.hid (C2.out.below hb3)
  have B3 := Lib.hid (bt B2.out hb3)
  clear hb3 C2 B2 x4
  have x0 := C3.out.cell 0
  have x1 := C3.out.cell 1
  have x2 := C3.out.cell 2
  have x3 := C3.out.cell 3
  have x5 := C3.out.cell 5
  simp only [List.getElem?_cons_zero, List.getElem?_cons_succ] at x0 x1 x2 x3 x5
  go_wp2_with fail
  refine (within_any part 0 3 w3).mono ?_
  rintro e w4 ⟨rfl, rfl⟩
  go_wp2_with fail
  refine (within_any off 0 1099511627776 w3).mono ?_
  rintro e w4 ⟨rfl, rfl⟩
  go_wp2
  go_ret
  exact ⟨rfl, B3.out⟩
set_option maxRecDepth 20000 in
set_option maxHeartbeats 1600000 in
theorem right_commit (x : CallS) (a : Option Addr) (l cap : Nat) (hx : x.recs = .slice a l cap) (hk : x.kind = 6) (hl : x.group.length ≤ maxLen) (hg : Sh.good [x.group] = true) (hp : 0 ≤ x.part ∧ x.part ≤ 3) (ho : 0 ≤ x.off ∧ x.off ≤ 1099511627776) (w : World) :
    Calls Tryd.prog 13 #[callV x] w fun e w' => e = .returned (.bool true) ∧ Below w.heap.size w w' := by
  obtain ⟨kind, part, off, max, group, recs⟩ := x
  dsimp only at *
  subst hk hx
  unfold callV callC
  go_enter Tryd.func13, Tryd.ntmps13
  obtain ⟨w1, hw1, C1, B1⟩ := right_start (w := w) ⟨6, part, off, max, group, .slice a l cap⟩ a l cap 6 part off max group
  go_upto_region 1 with (fail)
  first | rw [hw1] | skip
  clear hw1
  generalize w.heap.size = p at C1 ⊢
  have x4 := C1.out.cell 4
  simp only [List.getElem?_cons_zero, List.getElem?_cons_succ] at x4
  have T1 := Lib.hid (one_txt w1 group)
  have C2 := Lib.hid (C1.out.alloc (.cells #[.string ⟨group.toArray⟩] 9))
  have B2 := Lib.hid (B1.out.alloc B1.out.size (.cells #[.string ⟨group.toArray⟩] 9))
  have HG := Lib.hid (good_any (.slice (some ⟨w1.heap.size, 0, none⟩) 1 1) [group] _ T1.out (by simp [maxLen]) (by simpa using hl))
  go_wp2_with fail
  refine HG.out.mono ?_
  clear HG T1
  rintro e w3 ⟨rfl, hb3⟩
  have C3 := Lib.hid (C2.out.below hb3)
  have B3 := Lib.hid (bt B2.out hb3)
  clear hb3 C2 B2 x4
  have x0 := C3.out.cell 0
  have x1 := C3.out.cell 1
  have x2 := C3.out.cell 2
  have x3 := C3.out.cell 3
  have x5 := C3.out.cell 5
  simp only [List.getElem?_cons_zero, List.getElem?_cons_succ] at x0 x1 x2 x3 x5
  go_wp2_with fail
  refine (within_any part 0 3 w3).mono ?_
  rintro e w4 ⟨rfl, rfl⟩
  go_wp2_with fail
  refine (within_any off 0 1099511627776 w3).mono ?_
  rintro e w4 ⟨rfl, rfl⟩
  have e1 : (decide (0 ≤ part) && decide (part ≤ 3)) = true := by simp [hp]
  have e2 : (decide (0 ≤ off) && decide (off ≤ 1099511627776)) = true := by simp [ho]
  try simp only [e1, e2]
  go_wp2
  go_ret
  exact ⟨rfl, B3.out⟩
set_option maxRecDepth 20000 in
set_option maxHeartbeats 1600000 in
theorem right_fetch (x : CallS) (a : Option Addr) (l cap : Nat) (hx : x.recs = .slice a l cap) (hk : x.kind = 2) (hl : x.group.length ≤ maxLen) (hp : 1 ≤ x.part ∧ x.part ≤ 3) (ho : 0 ≤ x.off ∧ x.off ≤ 1099511627776) (hm : 0 ≤ x.max ∧ x.max ≤ 16) (w : World) :
    Calls Tryd.prog 13 #[callV x] w fun e w' => e = .returned (.bool true) ∧ Below w.heap.size w w' := by
  obtain ⟨kind, part, off, max, group, recs⟩ := x
  dsimp only at *
  subst hk hx
  unfold callV callC
  go_enter Tryd.func13, Tryd.ntmps13
  obtain ⟨w1, hw1, C1, B1⟩ := right_start (w := w) ⟨2, part, off, max, group, .slice a l cap⟩ a l cap 2 part off max group
  go_upto_region 1 with (fail)
  first | rw [hw1] | skip
  clear hw1
  generalize w.heap.size = p at C1 ⊢
  have x4 := C1.out.cell 4
  simp only [List.getElem?_cons_zero, List.getElem?_cons_succ] at x4
  have T1 := Lib.hid (one_txt w1 group)
  have C2 := Lib.hid (C1.out.alloc (.cells #[.string ⟨group.toArray⟩] 9))
  have B2 := Lib.hid (B1.out.alloc B1.out.size (.cells #[.string ⟨group.toArray⟩] 9))
  have HG := Lib.hid (good_any (.slice (some ⟨w1.heap.size, 0, none⟩) 1 1) [group] _ T1.out (by simp [maxLen]) (by simpa using hl))
  go_wp2_with fail
  refine HG.out.mono ?_
  clear HG T1
  rintro e w3 ⟨rfl, hb3⟩
  have C3 := Lib.hid (C2.out.below hb3)
  have B3 := Lib.hid (bt B2.out hb3)
  clear hb3 C2 B2 x4
  have x0 := C3.out.cell 0
  have x1 := C3.out.cell 1
  have x2 := C3.out.cell 2
  have x3 := C3.out.cell 3
  have x5 := C3.out.cell 5
  simp only [List.getElem?_cons_zero, List.getElem?_cons_succ] at x0 x1 x2 x3 x5
  go_wp2_with fail
  refine (within_any part 0 3 w3).mono ?_
  rintro e w4 ⟨rfl, rfl⟩
  go_wp2_with fail
  refine (within_any off 0 1099511627776 w3).mono ?_
  rintro e w4 ⟨rfl, rfl⟩
  have e1 : (decide (0 ≤ part) && decide (part ≤ 3)) = true := by simp; omega
  have e2 : (decide (0 ≤ off) && decide (off ≤ 1099511627776)) = true := by simp [ho]
  try simp only [e1, e2]
  obtain ⟨hp1, hp2⟩ := hp
  go_wp2_with fail
  refine (within_any max 0 16 w3).mono ?_
  rintro e w4 ⟨rfl, rfl⟩
  have e3 : (decide (0 ≤ max) && decide (max ≤ 16)) = true := by simp [hm]
  try simp only [e3]
  go_wp2
  go_ret
  exact ⟨rfl, B3.out⟩

end Go.Proofs.YtkjbhkillkbcgaaDoor
