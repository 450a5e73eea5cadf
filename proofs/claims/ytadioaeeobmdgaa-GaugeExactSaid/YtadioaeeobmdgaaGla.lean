/-
  The walks of GaugeOver and GaugeSets: each returns true and leaves old memory as it was.
  Conditions: none but the model's longest length.
-/
import Derived.Test.YtadioaeeobmdgaaGwf
set_option linter.unusedVariables false
set_option linter.unusedSimpArgs false
namespace Go.Proofs.Ytadioaeeobmdgaa
open Go.RowKit Fl

/-- Small sizes. -/
def Smalls (ns : List (Nat × Nat)) : Prop := ns.length ≤ 60 ∧ ∀ q ∈ ns, q.1 < 1048576 ∧ q.2 < 1048576
theorem smalls_filled (zs : List (Int × Int)) : Smalls (filledOf zs) := by
  refine ⟨by rw [filledOf, List.length_map, List.length_take]; omega, fun q hq => ?_⟩
  obtain ⟨z, _, rfl⟩ := List.mem_map.1 hq
  exact ⟨low_lt _, low_lt _⟩
theorem Smalls.le {ns : List (Nat × Nat)} (h : Smalls ns) : sA ns ≤ 62914560 ∧ sB ns ≤ 62914560 := by
  have key : ∀ l : List (Nat × Nat), (∀ q ∈ l, q.1 < 1048576 ∧ q.2 < 1048576) → sA l ≤ l.length * 1048576 ∧ sB l ≤ l.length * 1048576 := by
    intro l
    induction l with
    | nil => intro _; simp [sA, sB]
    | cons q r ih =>
      intro hq
      have h1 := hq q (by simp)
      have h2 := ih (fun x hx => hq x (by simp [hx]))
      simp only [sA, sB, List.map_cons, List.sum_cons, List.length_cons, Nat.add_mul] at *
      omega
  have := key ns h.2
  have hl := h.1
  have : ns.length * 1048576 ≤ 60 * 1048576 := Nat.mul_le_mul_right _ hl
  omega
theorem sums_split (ns : List (Nat × Nat)) (k : Nat) : sA ns = sA (ns.take k) + sA (ns.drop k) ∧ sB ns = sB (ns.take k) + sB (ns.drop k) := by
  have e : ns = ns.take k ++ ns.drop k := (List.take_append_drop k ns).symm
  constructor
  · conv => lhs; rw [e]
    exact sA_append _ _
  · conv => lhs; rw [e]
    exact sB_append _ _
theorem ov_lt (ns : List (Nat × Nat)) (m : Int) (h : ns ≠ []) : ov ns m < ns.length := by
  induction ns with
  | nil => exact absurd rfl h
  | cons x r ih =>
    cases r with
    | nil => simp [ov]
    | cons y r =>
      have h2 := ih (by simp)
      rw [ov]
      simp only [List.length_cons] at h2 ⊢
      split <;> omega
theorem ov_enough (ns : List (Nat × Nat)) (m : Int) (h : ns ≠ []) : ((sB (ns.drop (ov ns m)) : Nat) : Int) ≤ m ∨ ov ns m + 1 = ns.length := by
  induction ns with
  | nil => exact absurd rfl h
  | cons x r ih =>
    cases r with
    | nil => right; simp [ov]
    | cons y r =>
      have h2 := ih (by simp)
      rw [ov]
      split
      · rw [Nat.add_comm 1, List.drop_succ_cons]
        simp only [List.length_cons] at h2 ⊢
        omega
      · left; simp; omega
theorem ov_least (ns : List (Nat × Nat)) (m : Int) : ov ns m = 0 ∨ m < ((sB (ns.drop (ov ns m - 1)) : Nat) : Int) := by
  induction ns with
  | nil => left; rfl
  | cons x r ih =>
    cases r with
    | nil => left; rfl
    | cons y r =>
      rw [ov]
      split
      · rename_i hm
        right
        rcases ih with h0 | h0
        · rw [h0]; exact hm
        · have hne : ov (y :: r) m ≠ 0 ∨ ov (y :: r) m = 0 := by omega
          rcases hne with hne | hne
          · have e : 1 + ov (y :: r) m - 1 = (ov (y :: r) m - 1) + 1 := by omega
            rw [e, List.drop_succ_cons]; exact h0
          · rw [hne]; exact hm
      · left; rfl

set_option maxRecDepth 20000 in
set_option maxHeartbeats 1000000 in
theorem over_walk (v : Value) (zs : List (Int × Int)) (m : Int) (w : World) (h : Pairs w v zs) (hm : zs.length ≤ maxLen) :
    Calls Try.prog 3 #[v, .int .i64 m] w fun e w' => e = .returned (.bool true) ∧ Below w.heap.size w w' := by
  have HP := Lib.hid h
  have HM := Lib.hid hm
  have hsm := Lib.hid (smalls_filled zs)
  clear h hm
  go_enter Try.func3, Try.ntmps3
  go_wp2_with fail
  refine (awake_any _).mono ?_
  rintro e w1 ⟨rfl, hb1⟩
  have HB1 := Lib.hid hb1
  have HP1 := Lib.hid (HP.out.kept hb1)
  clear hb1
  go_wp2_with fail
  refine (filled_any _ _ _ HP1.out HM.out).mono ?_
  rintro e w2 ⟨p, vr, rfl, hg2, hb2⟩
  have HB2 := Lib.hid (bt HB1.out hb2)
  have H2 := Lib.hid hg2
  clear hg2 hb2
  generalize filledOf zs = ns at H2 hsm
  go_wp2_with fail
  refine (over_any _ _ _ _ _ _ H2.out).mono ?_
  rintro e w3 ⟨rfl, n3, rfl⟩
  go_wp2_with fail
  refine (len_any _ _ _ _ _ (H2.out.drewN _)).mono ?_
  rintro e w4 ⟨rfl, rfl⟩
  by_cases hne : ns = []
  · subst hne
    go_wp2
    go_ret
    exact ⟨rfl, below_drewN HB2.out _⟩
  · have hlt := ov_lt ns m hne
    have hlen : ns.length ≤ 60 := hsm.out.1
    have hz : ((ns.length : Int) == 0) = false := by
      have : 0 < ns.length := List.length_pos_iff.2 hne
      simp; omega
    have HE := Lib.hid (ov_enough ns m hne)
    have HL := Lib.hid (ov_least ns m)
    generalize ov ns m = n at hlt HE HL
    clear hne
    go_wp2_with fail
    refine (len_any _ _ _ _ _ (H2.out.drewN _)).mono ?_
    rintro e w5 ⟨rfl, rfl⟩
    go_wp2_with fail
    refine (sumRow_any _ _ _ _ _ (H2.out.drewN _)).mono ?_
    rintro e w6 ⟨rfl, n6, rfl⟩
    go_wp2_with fail
    refine (ahead_any _ _ _ _ _ _ (H2.out.drewN _)).mono ?_
    rintro e w7 ⟨rfl, n7, rfl⟩
    rw [Int.toNat_natCast]
    have hle := hsm.out.le
    obtain ⟨s1, s2⟩ := sums_split ns n
    have hsub := sub_cx 30 (sA ns) (sB ns) (sA (ns.take n)) (sB (ns.take n)) (by omega) (by omega) (by omega) (by omega)
    have hL : Hid (sB ns - sB (ns.take n) = sB (ns.drop n)) := by rw [Hid]; omega
    have hpa := Lib.hid (part_fl (n := sA ns - sA (ns.take n)) (by rw [most_eq]; omega))
    have hpb := Lib.hid (part_fl (n := sB ns - sB (ns.take n)) (by rw [most_eq]; omega))
    clear s1 s2
    go_wp2_with fail
    refine (parts_any _ _ _ _ hpa.out hpb.out _).mono ?_
    rintro e w8 ⟨rfl, rfl⟩
    rw [hL.out]
    clear hsub hpa hpb hL
    go_wp2_with fail
    refine (sumRow_any _ _ _ _ _ (H2.out.drewN _)).mono ?_
    rintro e w9 ⟨rfl, n9, rfl⟩
    go_wp2_with fail
    refine (ahead_any _ _ _ _ _ _ (H2.out.drewN _)).mono ?_
    rintro e w10 ⟨rfl, n10, rfl⟩
    rw [show ((n : Int) - 1).toNat = n - 1 by omega]
    obtain ⟨s1, s2⟩ := sums_split ns (n - 1)
    have hsub := sub_cx 30 (sA ns) (sB ns) (sA (ns.take (n - 1))) (sB (ns.take (n - 1))) (by omega) (by omega) (by omega) (by omega)
    have hL : Hid (sB ns - sB (ns.take (n - 1)) = sB (ns.drop (n - 1))) := by rw [Hid]; omega
    have hpa := Lib.hid (part_fl (n := sA ns - sA (ns.take (n - 1))) (by rw [most_eq]; omega))
    have hpb := Lib.hid (part_fl (n := sB ns - sB (ns.take (n - 1))) (by rw [most_eq]; omega))
    clear s1 s2
    go_wp2_with fail
    refine (parts_any _ _ _ _ hpa.out hpb.out _).mono ?_
    rintro e w11 ⟨rfl, rfl⟩
    rw [hL.out]
    clear hsub hpa hpb hL
    generalize sB (ns.drop n) = left at HE
    generalize sB (ns.drop (n - 1)) = more at HL
    by_cases hn0 : n = 0
    · have hnz : ((n : Int) == 0) = true := by rw [hn0]; rfl
      clear HL hn0
      by_cases hl : (left : Int) ≤ m
      · go_wp2
        go_ret
        exact ⟨rfl, below_drewN HB2.out _⟩
      · have hlast : ((n : Int) == (ns.length : Int) - 1) = true := by
          rcases HE.out with h | h
          · exact absurd h hl
          · rw [beq_iff_eq]; omega
        have hl' : m < (left : Int) := by omega
        clear hl HE
        go_wp2_with fail
        refine (len_any _ _ _ _ _ (H2.out.drewN _)).mono ?_
        rintro e w12 ⟨rfl, rfl⟩
        go_wp2
        go_ret
        exact ⟨rfl, below_drewN HB2.out _⟩
    · have hnz : ((n : Int) == 0) = false := by simpa using hn0
      have hmore : m < (more : Int) := by rcases HL.out with h | h; exact absurd h hn0; exact h
      clear HL hn0
      by_cases hl : (left : Int) ≤ m
      · go_wp2
        go_ret
        exact ⟨rfl, below_drewN HB2.out _⟩
      · have hlast : ((n : Int) == (ns.length : Int) - 1) = true := by
          rcases HE.out with h | h
          · exact absurd h hl
          · rw [beq_iff_eq]; omega
        have hl' : m < (left : Int) := by omega
        clear hl HE
        go_wp2_with fail
        refine (len_any _ _ _ _ _ (H2.out.drewN _)).mono ?_
        rintro e w12 ⟨rfl, rfl⟩
        go_wp2
        go_ret
        exact ⟨rfl, below_drewN HB2.out _⟩

end Go.Proofs.Ytadioaeeobmdgaa
