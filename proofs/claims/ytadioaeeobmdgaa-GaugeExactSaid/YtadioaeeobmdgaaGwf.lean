/-
  The law's awake: the document's examples hold of the program.
  Conditions: none.
-/
import Derived.Test.YtadioaeeobmdgaaGwe
set_option linter.unusedVariables false
set_option linter.unusedSimpArgs false
namespace Go.Proofs.Ytadioaeeobmdgaa
open Go.RowKit Fl

theorem part_lit {n b : Nat} (h : fl n = b) (hn : n ≤ most) : Fl.part b = some n := h ▸ part_fl hn
theorem eq_lit {n b : Nat} (h : fl n = b) (hn : n < 2 ^ 53) : (FloatKind.f64.format.order (fl n) b == some Ordering.eq) = true := by
  subst h
  have : FloatKind.f64.format.order (fl n) (fl n) = some (compare n n) := order_fl hn hn
  rw [this]
  simp
theorem eq_same {n : Nat} (hn : n < 2 ^ 53) : (FloatKind.f64.format.order (fl n) (fl n) == some Ordering.eq) = true := eq_lit rfl hn

set_option maxRecDepth 20000 in
set_option maxHeartbeats 1000000 in
theorem awake_any (w : World) : Calls Try.prog 9 #[] w fun e w' => e = .returned (.bool true) ∧ Below w.heap.size w w' := by
  have q2 := Lib.hid (part_lit (n := 2) (b := 4611686018427387904) (by decide +kernel) (by decide))
  have q30 := Lib.hid (part_lit (n := 30) (b := 4629137466983448576) (by decide +kernel) (by decide))
  have q1 := Lib.hid (part_lit (n := 1) (b := 4607182418800017408) (by decide +kernel) (by decide))
  have q20 := Lib.hid (part_lit (n := 20) (b := 4626322717216342016) (by decide +kernel) (by decide))
  have q10 := Lib.hid (part_lit (n := 10) (b := 4621819117588971520) (by decide +kernel) (by decide))
  have hneg : Hid (Fl.part 13830554455654793216 = none) := part_none_of_ge (by decide +kernel)
  have o4 := eq_lit (n := 4) (b := 4616189618054758400) (by decide +kernel) (by decide)
  have o60 := eq_lit (n := 60) (b := 4633641066610819072) (by decide +kernel) (by decide)
  have o2 := eq_lit (n := 2) (b := 4611686018427387904) (by decide +kernel) (by decide)
  have o30 := eq_lit (n := 30) (b := 4629137466983448576) (by decide +kernel) (by decide)
  have H0 : Hid (GRow (w.alloc (.cells #[.slice none 0 0] 64)) w.heap.size w.heap.size (.slice none 0 0) []) := GRow.new w _ (Nat.le_refl _)
  have HB0 : Hid (Below w.heap.size w (w.alloc (.cells #[.slice none 0 0] 64))) := (Below.refl _ _).alloc (Nat.le_refl _) _
  go_enter Try.func9, Try.ntmps9
  go_wp2_with fail
  refine (new_any _).mono ?_
  rintro e w0 ⟨rfl, rfl⟩
  go_wp2_with fail
  refine (push_any _ _ _ _ _ _ 2 30 _ H0.out (by simp) q2.out q30.out).mono ?_
  rintro e w1 ⟨rfl, v1, hg1, ht1⟩
  have HB1 := Lib.hid (HB0.out.trans (ht1.below H0.out))
  have H1 := Lib.hid hg1
  clear hg1 ht1 H0 HB0
  go_wp2_with fail
  refine (push_any _ _ _ _ _ _ 1 20 _ H1.out (by simp) q1.out q20.out).mono ?_
  rintro e w2 ⟨rfl, v2, hg2, ht2⟩
  have HB2 := Lib.hid (HB1.out.trans (ht2.below H1.out))
  have H2 := Lib.hid hg2
  clear hg2 ht2 H1 HB1
  go_wp2_with fail
  refine (push_any _ _ _ _ _ _ 1 10 _ H2.out (by simp) q1.out q10.out).mono ?_
  rintro e w3 ⟨rfl, v3, hg3, ht3⟩
  have HB3 := Lib.hid (HB2.out.trans (ht3.below H2.out))
  have H3 := Lib.hid hg3
  clear hg3 ht3 H2 HB2
  go_wp2_with fail
  refine (sumRow_any _ _ _ _ _ H3.out).mono ?_
  rintro e w4 ⟨rfl, n4, rfl⟩
  rw [show sA ([] ++ [(2, 30)] ++ [(1, 20)] ++ [(1, 10)]) = 4 from rfl, show sB ([] ++ [(2, 30)] ++ [(1, 20)] ++ [(1, 10)]) = 60 from rfl]
  go_wp2_with fail
  refine (parts_any _ _ 4 60 (part_fl (by decide)) (part_fl (by decide)) _).mono ?_
  rintro e w5 ⟨rfl, rfl⟩
  go_wp2_with fail
  refine (sumRow_any _ _ _ _ _ (H3.out.drewN _)).mono ?_
  rintro e w6 ⟨rfl, n6, rfl⟩
  rw [show sA ([] ++ [(2, 30)] ++ [(1, 20)] ++ [(1, 10)]) = 4 from rfl, show sB ([] ++ [(2, 30)] ++ [(1, 20)] ++ [(1, 10)]) = 60 from rfl]
  go_wp2_with fail
  refine (over_any _ _ _ _ _ _ (H3.out.drewN _)).mono ?_
  rintro e w7 ⟨rfl, n7, rfl⟩
  rw [show ov ([] ++ [(2, 30)] ++ [(1, 20)] ++ [(1, 10)]) 35 = 1 from rfl]
  go_wp2_with fail
  refine (over_any _ _ _ _ _ _ (H3.out.drewN _)).mono ?_
  rintro e w8 ⟨rfl, n8, rfl⟩
  rw [show ov ([] ++ [(2, 30)] ++ [(1, 20)] ++ [(1, 10)]) 0 = 2 from rfl]
  go_wp2_with fail
  refine (ahead_any _ _ _ _ _ _ (H3.out.drewN _)).mono ?_
  rintro e w9 ⟨rfl, n9, rfl⟩
  rw [show sA (List.take (Int.toNat 1) ([] ++ [(2, 30)] ++ [(1, 20)] ++ [(1, 10)])) = 2 from rfl, show sB (List.take (Int.toNat 1) ([] ++ [(2, 30)] ++ [(1, 20)] ++ [(1, 10)])) = 30 from rfl]
  go_wp2_with fail
  refine (push_no _ _ _ _ _ _ _ (H3.out.drewN _) (.inr (.inl hneg.out))).mono ?_
  rintro e w10 ⟨rfl, rfl⟩
  go_wp2
  go_ret
  exact ⟨rfl, below_drewN HB3.out _⟩

end Go.Proofs.Ytadioaeeobmdgaa
