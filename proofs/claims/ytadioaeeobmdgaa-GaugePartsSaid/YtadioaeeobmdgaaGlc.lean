/-
  GaugeSets: another size at a place.
  Conditions: none but the model's longest length.
-/
import Derived.Test.YtadioaeeobmdgaaGla
import Derived.Test.YtadioaeeobmdgaaGlb
set_option linter.unusedVariables false
set_option linter.unusedSimpArgs false
namespace Go.Proofs.Ytadioaeeobmdgaa
open Go.RowKit Fl

theorem sub_cx' (a b c d x y : Nat) (hx : a = c + x) (hy : b = d + y) (h1 : a < 2 ^ 53) (h2 : b < 2 ^ 53) (w : World) :
    (binOp .sub 30 (.complex .f64 (fl a) (fl b)) (.complex .f64 (fl c) (fl d))).run Try.prog w = .ok (.complex .f64 (fl x) (fl y)) w := by
  have := sub_cx 30 a b c d h1 h2 (by omega) (by omega) w
  rwa [show a - c = x by omega, show b - d = y by omega] at this
theorem add_cx' (a b c d x y : Nat) (hx : x = a + c) (hy : y = b + d) (h1 : x < 2 ^ 53) (h2 : y < 2 ^ 53) (w : World) :
    (binOp .add 30 (.complex .f64 (fl a) (fl b)) (.complex .f64 (fl c) (fl d))).run Try.prog w = .ok (.complex .f64 (fl x) (fl y)) w := by
  subst hx hy
  exact add_cx 30 a b c d h1 h2 w
theorem sets_sums (ns : List (Nat × Nat)) (k : Nat) (h : k < ns.length) (c : Nat × Nat) : ∃ pa pb qa qb ra rb : Nat,
    sA (ns.take k) = pa ∧ sB (ns.take k) = pb ∧ sA (ns.take (k + 1)) = pa + qa ∧ sB (ns.take (k + 1)) = pb + qb ∧ sA ns = pa + qa + ra ∧ sB ns = pb + qb + rb ∧
    sA ((ns.set k c).take k) = pa ∧ sB ((ns.set k c).take k) = pb ∧ sA ((ns.set k c).take (k + 1)) = pa + c.1 ∧ sB ((ns.set k c).take (k + 1)) = pb + c.2 ∧
    sA (ns.set k c) = pa + c.1 + ra ∧ sB (ns.set k c) = pb + c.2 + rb := by
  have e1 := sums_take ns k h
  have e2 := sums_split ns (k + 1)
  have hl : k < (ns.set k c).length := by simpa using h
  have e3 := sums_take (ns.set k c) k hl
  have e4 := sums_split (ns.set k c) (k + 1)
  have t1 : (ns.set k c).take k = ns.take k := by rw [List.take_set_of_le (Nat.le_refl _)]
  have t2 : (ns.set k c).drop (k + 1) = ns.drop (k + 1) := by rw [List.drop_set_of_lt (by omega)]
  have t3 : (ns.set k c).getD k (0, 0) = c := by simp [List.getD, h]
  rw [t1, t3] at e3
  rw [t2] at e4
  rw [t1]
  exact ⟨_, _, _, _, _, _, rfl, rfl, e1.1, e1.2, by rw [e2.1, e1.1], by rw [e2.2, e1.2], rfl, rfl, e3.1, e3.2, by rw [e4.1, e3.1], by rw [e4.2, e3.2]⟩

set_option maxRecDepth 20000 in
set_option maxHeartbeats 1000000 in
theorem sets_walk (v : Value) (zs : List (Int × Int)) (at' : Int) (q : Int × Int) (w : World) (h : Pairs w v zs) (hm : zs.length ≤ maxLen) :
    Calls Try.prog 4 #[v, .int .i64 at', .agg #[.int .i64 q.1, .int .i64 q.2]] w fun e w' => e = .returned (.bool true) ∧ Below w.heap.size w w' := by
  have HM := Lib.hid hm
  have hsm := Lib.hid (smalls_filled zs)
  have hbx : Below w.heap.size w (w.alloc (.cells #[.int .i64 q.1, .int .i64 q.2] 34)) := (Below.refl _ _).alloc (Nat.le_refl _) _
  have HP := Lib.hid (h.kept hbx)
  have HBX := Lib.hid hbx
  have HC : Hid ((w.alloc (.cells #[.int .i64 q.1, .int .i64 q.2] 34)).cell? ⟨w.heap.size, 0, none⟩ = some (.int .i64 q.1) ∧ (w.alloc (.cells #[.int .i64 q.1, .int .i64 q.2] 34)).cell? ⟨w.heap.size, 1, none⟩ = some (.int .i64 q.2)) := by
    have e := cell_two_new w (.int .i64 q.1) (.int .i64 q.2) 34
    exact ⟨e 0 _ rfl, e 1 _ rfl⟩
  have hsz : Hid (w.heap.size < (w.alloc (.cells #[.int .i64 q.1, .int .i64 q.2] 34)).heap.size) := by show w.heap.size < (w.heap.push _).size; simp
  clear h hm hbx
  go_enter Try.func4, Try.ntmps4
  go_wp2_with fail
  generalize hw0 : w.alloc (.cells #[.int .i64 q.1, .int .i64 q.2] 34) = w0 at *
  clear hw0
  generalize hp : w.heap.size = bx at *
  refine (awake_any _).mono ?_
  rintro e w1 ⟨rfl, hb1⟩
  have HB1 := Lib.hid hb1
  have HP1 := Lib.hid (HP.out.kept hb1)
  clear hb1
  go_wp2_with fail
  refine (filled_any _ _ _ HP1.out HM.out).mono ?_
  rintro e w2 ⟨p, vr, rfl, hg2, hb2⟩
  have HB2 := Lib.hid (bt HB1.out hb2)
  have H2 := Lib.hid hg2
  clear hg2 hb2
  generalize filledOf zs = ns at H2 hsm
  go_wp2_with fail
  refine (len_any _ _ _ _ _ H2.out).mono ?_
  rintro e w3 ⟨rfl, rfl⟩
  by_cases hne : ns = []
  · subst hne
    have hpst : Hid (Fl.part 4607182418800017408 = some 1) := Lib.hid (part_lit (n := 1) (b := 4607182418800017408) (by decide +kernel) (by decide))
    go_wp2_with fail
    refine (set_no _ _ _ _ _ _ _ _ H2.out (.inr (.inl (by simp)))).mono ?_
    rintro e w4 ⟨rfl, rfl⟩
    go_wp2
    go_ret
    exact ⟨rfl, by subst hp; exact HBX.out.trans (HB2.out.mono (Nat.le_of_lt hsz.out))⟩
  · have hlen : ns.length ≤ 60 := hsm.out.1
    have hpos : 0 < ns.length := List.length_pos_iff.2 hne
    have hz : ((ns.length : Int) == 0) = false := by simp; omega
    have hz2 : ((ns.length : Int) = 0) = False := by simp; omega
    clear hne
    go_wp2_with fail
    refine (len_any _ _ _ _ _ H2.out).mono ?_
    rintro e w4 ⟨rfl, rfl⟩
    obtain ⟨k, hk, hkl⟩ : ∃ k : Nat, (IntKind.u64.wrap at').tmod (ns.length : Int) = (k : Int) ∧ k < ns.length := by
      have h0 : 0 ≤ IntKind.u64.wrap at' := by rw [IntKind.wrap_u64]; omega
      rw [Int.tmod_eq_emod_of_nonneg h0]
      generalize IntKind.u64.wrap at' = x at h0
      have h1 : 0 ≤ x % (ns.length : Int) := Int.emod_nonneg _ (by omega)
      have h2 : x % (ns.length : Int) < (ns.length : Int) := Int.emod_lt_of_pos _ (by omega)
      exact ⟨(x % (ns.length : Int)).toNat, by omega, by omega⟩
    have hc1 : w2.cell? ⟨bx, 0, none⟩ = some (.int .i64 q.1) := (HB2.out.cell (p := ⟨bx, 0, none⟩) hsz.out).trans HC.out.1
    have hc2 : w2.cell? ⟨bx, 1, none⟩ = some (.int .i64 q.2) := (HB2.out.cell (p := ⟨bx, 1, none⟩) hsz.out).trans HC.out.2
    obtain ⟨q1, q2⟩ := q
    have e1 := low_eq q1
    have e2 := low_eq q2
    have f1 := floatOfInt_fl (low q1)
    have f2 := floatOfInt_fl (low q2)
    have l1 := low_lt q1
    have l2 := low_lt q2
    simp only at hc1 hc2 HC
    clear HC
    generalize low q1 = c1 at e1 f1 l1
    generalize low q2 = c2 at e2 f2 l2
    have p1 := Lib.hid (part_fl (n := c1) (by rw [most_eq]; omega))
    have p2 := Lib.hid (part_fl (n := c2) (by rw [most_eq]; omega))
    obtain ⟨pa, pb, qa, qb, ra, rb, s1, s2, s3, s4, s5, s6, s7, s8, s9, s10, s11, s12⟩ := sets_sums ns k hkl (c1, c2)
    simp only at s9 s10 s11 s12
    have hle := hsm.out.le
    have T1 := Lib.hid s1; have T2 := Lib.hid s2; have T3 := Lib.hid s3; have T4 := Lib.hid s4; have T5 := Lib.hid s5; have T6 := Lib.hid s6
    have T7 := Lib.hid s7; have T8 := Lib.hid s8; have T9 := Lib.hid s9; have T10 := Lib.hid s10; have T11 := Lib.hid s11; have T12 := Lib.hid s12
    rw [s5, s6] at hle
    clear s1 s2 s3 s4 s5 s6 s7 s8 s9 s10 s11 s12
    have d1 := sub_cx' (pa + qa) (pb + qb) pa pb qa qb (by omega) (by omega) (by omega) (by omega)
    have d2 := sub_cx' (pa + qa + ra) (pb + qb + rb) (pa + qa) (pb + qb) ra rb (by omega) (by omega) (by omega) (by omega)
    have d3 := sub_cx' (pa + qa + ra) (pb + qb + rb) qa qb (pa + ra) (pb + rb) (by omega) (by omega) (by omega) (by omega)
    have d4 := add_cx' (pa + ra) (pb + rb) c1 c2 (pa + c1 + ra) (pb + c2 + rb) (by omega) (by omega) (by omega) (by omega)
    have d5 := sub_cx' (pa + c1 + ra) (pb + c2 + rb) (pa + c1) (pb + c2) ra rb (by omega) (by omega) (by omega) (by omega)
    have g1 := eq_same (n := pa + c1 + ra) (by omega)
    have g2 := eq_same (n := pb + c2 + rb) (by omega)
    have g3 := eq_same (n := pa) (by omega)
    have g4 := eq_same (n := pb) (by omega)
    have g5 := eq_same (n := ra) (by omega)
    have g6 := eq_same (n := rb) (by omega)
    clear hle
    go_wp2_with fail
    refine (ahead_any _ _ _ _ _ _ H2.out).mono ?_
    rintro e w5 ⟨rfl, n5, rfl⟩
    rw [show ((k : Int) + 1).toNat = k + 1 by omega, T3.out, T4.out]
    go_wp2_with fail
    refine (ahead_any _ _ _ _ _ _ (H2.out.drewN _)).mono ?_
    rintro e w6 ⟨rfl, n6, rfl⟩
    rw [Int.toNat_natCast, T1.out, T2.out]
    go_wp2_with fail
    refine (sumRow_any _ _ _ _ _ (H2.out.drewN _)).mono ?_
    rintro e w7 ⟨rfl, n7, rfl⟩
    rw [T5.out, T6.out]
    go_wp2_with fail
    refine (ahead_any _ _ _ _ _ _ (H2.out.drewN _)).mono ?_
    rintro e w8 ⟨rfl, n8, rfl⟩
    rw [Int.toNat_natCast, T1.out, T2.out]
    go_wp2_with fail
    refine (ahead_any _ _ _ _ _ _ (H2.out.drewN _)).mono ?_
    rintro e w9 ⟨rfl, n9, rfl⟩
    rw [show ((k : Int) + 1).toNat = k + 1 by omega, T3.out, T4.out]
    go_wp2_with fail
    refine (set_any _ _ _ _ k _ _ c1 c2 _ (H2.out.drewN _) hkl p1.out p2.out).mono ?_
    rintro e w10 ⟨rfl, v3, hg3, ht3⟩
    have HB3 := Lib.hid (((below_drewN HB2.out _).mono (Nat.le_of_lt hsz.out)).trans ((ht3.below (H2.out.drewN _)).mono (Nat.le_trans (Nat.le_of_lt hsz.out) HB1.out.size)))
    have H3 := Lib.hid hg3
    clear hg3 ht3 hc1 hc2
    go_wp2_with fail
    refine (sumRow_any _ _ _ _ _ H3.out).mono ?_
    rintro e w11 ⟨rfl, n11, rfl⟩
    rw [T11.out, T12.out]
    go_wp2_with fail
    refine (ahead_any _ _ _ _ _ _ (H3.out.drewN _)).mono ?_
    rintro e w12 ⟨rfl, n12, rfl⟩
    rw [Int.toNat_natCast, T7.out, T8.out]
    go_wp2_with fail
    refine (sumRow_any _ _ _ _ _ (H3.out.drewN _)).mono ?_
    rintro e w13 ⟨rfl, n13, rfl⟩
    rw [T11.out, T12.out]
    go_wp2_with fail
    refine (ahead_any _ _ _ _ _ _ (H3.out.drewN _)).mono ?_
    rintro e w14 ⟨rfl, n14, rfl⟩
    rw [show ((k : Int) + 1).toNat = k + 1 by omega, T9.out, T10.out]
    go_wp2
    go_ret
    exact ⟨rfl, by subst hp; exact HBX.out.trans (below_drewN HB3.out _)⟩

end Go.Proofs.Ytadioaeeobmdgaa
