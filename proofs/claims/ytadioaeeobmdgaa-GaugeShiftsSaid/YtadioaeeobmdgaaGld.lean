/-
  GaugeShifts: taken out one by one.
  Conditions: none but the model's longest length.
-/
import Derived.Test.YtadioaeeobmdgaaGla
import Derived.Test.YtadioaeeobmdgaaGlc
set_option linter.unusedVariables false
set_option linter.unusedSimpArgs false
namespace Go.Proofs.Ytadioaeeobmdgaa
open Go.RowKit Fl

theorem over_nil (m : Int) (w : World) : Calls Try.prog 11 #[.pointer none, .int .i64 m] w fun e w' => e = .returned (.int .i64 0) ∧ w = w' := by
  go_enter Try.func11, Try.ntmps11
  go_wp2_with fail
  refine (sumRow_nil _).mono ?_
  rintro e w1 ⟨rfl, rfl⟩
  go_wp2
  go_loop [5] (fun i => i = .int .i64 0) (fun i => 0)
  case atStart => rfl
  case round =>
    subst hrel
    go_wp2_with fail
    refine (len_nil _).mono ?_
    rintro e w1 ⟨rfl, rfl⟩
    go_wp2
    go_ret
    exact ⟨rfl, rfl⟩

set_option maxRecDepth 20000 in
set_option maxHeartbeats 1000000 in
theorem shifts_walk (v : Value) (zs : List (Int × Int)) (w : World) (h : Pairs w v zs) (hm : zs.length ≤ maxLen) :
    Calls Try.prog 6 #[v] w fun e w' => e = .returned (.bool true) ∧ Below w.heap.size w w' := by
  have HP := Lib.hid h
  have HM := Lib.hid hm
  have hsm := Lib.hid (smalls_filled zs)
  have g0 := eq_lit (n := 0) (b := 0) (by decide +kernel) (by decide)
  clear h hm
  go_enter Try.func6, Try.ntmps6
  go_wp2_with fail
  refine (awake_any _).mono ?_
  rintro e w1 ⟨rfl, hb1⟩
  have HB1 := Lib.hid hb1
  have HP1 := Lib.hid (HP.out.kept hb1)
  clear hb1
  go_wp2_with fail
  refine (filled_any _ _ _ HP1.out HM.out).mono ?_
  rintro e w2 ⟨p, vr, rfl, hg2, hb2⟩
  have HB2 := Lib.hid (bt HB1.out hb2)
  have H2 := Lib.hid hg2
  clear hg2 hb2
  generalize filledOf zs = ns at H2 hsm
  go_wp2_with fail
  refine (len_any _ _ _ _ _ H2.out).mono ?_
  rintro e w3 ⟨rfl, rfl⟩
  have hlen : ns.length ≤ 60 := hsm.out.1
  have hle := hsm.out.le
  go_wp2
  go_loopw [5] (fun i wr => ∃ k : Nat, i = .int .i64 k ∧ k ≤ ns.length ∧ (∃ vr, GRow wr w1.heap.size p vr (ns.drop k)) ∧ Below w.heap.size w wr) (fun i _ => ns.length - (intOf i).toNat)
  case atStart => exact ⟨0, rfl, by omega, ⟨vr, H2.out⟩, HB2.out⟩
  case round =>
    obtain ⟨k, rfl, hk, ⟨vr, hg⟩, hbel⟩ := hrel
    have HG := Lib.hid hg
    have HB := Lib.hid hbel
    clear hg hbel
    by_cases hlt : k < ns.length
    · have hd : ns.drop k = ns.getD k (0, 0) :: ns.drop (k + 1) := by
        rw [List.drop_eq_getElem_cons hlt]
        simp [List.getD, hlt]
      have hs := sums_split ns k
      rw [hd] at HG hs
      have hl1 : Hid (((ns.getD k (0, 0) :: ns.drop (k + 1)).length : Int) = (ns.length : Int) - k) := by rw [Hid, List.length_cons, List.length_drop]; omega
      have hl2 : Hid (((ns.drop (k + 1)).length : Int) = (ns.length : Int) - k - 1) := by rw [Hid, List.length_drop]; omega
      clear hd
      have hltI : (k : Int) < (ns.length : Int) := by omega
      generalize ns.getD k (0, 0) = q at HG hl1 hs
      generalize hr0 : ns.drop (k + 1) = rest at HG hl1 hl2 hs
      have hr := Lib.hid hr0
      clear hr0
      obtain ⟨qa, qb⟩ := q
      have t1 : Hid (sA (List.take (Int.toNat 1) ((qa, qb) :: rest)) = qa) := by simp [Hid, sA]
      have t2 : Hid (sB (List.take (Int.toNat 1) ((qa, qb) :: rest)) = qb) := by simp [Hid, sB]
      have t3' : sA ((qa, qb) :: rest) = qa + sA rest := by simp [sA]
      have t4' : sB ((qa, qb) :: rest) = qb + sB rest := by simp [sB]
      rw [t3', t4'] at hs
      have t3 := Lib.hid t3'
      have t4 := Lib.hid t4'
      clear t3' t4'
      have d1 := sub_cx' (qa + sA rest) (qb + sB rest) qa qb (sA rest) (sB rest) (by omega) (by omega) (by omega) (by omega)
      have o1 := eq_same (n := qa) (by omega)
      have o2 := eq_same (n := qb) (by omega)
      have o3 := eq_same (n := sA rest) (by omega)
      have o4 := eq_same (n := sB rest) (by omega)
      clear hs
      go_wp2_with fail
      refine (ahead_any _ _ _ _ _ _ HG.out).mono ?_
      rintro e w4 ⟨rfl, n4, rfl⟩
      rw [t1.out, t2.out]
      go_wp2_with fail
      refine (sumRow_any _ _ _ _ _ (HG.out.drewN _)).mono ?_
      rintro e w5 ⟨rfl, n5, rfl⟩
      rw [t3.out, t4.out]
      go_wp2_with fail
      refine (shift_any _ _ _ _ _ _ (HG.out.drewN _)).mono ?_
      rintro e w6 ⟨rfl, v6, hg6, ht6⟩
      have HB6 := Lib.hid ((below_drewN HB.out _).trans ((ht6.below (HG.out.drewN _)).mono HB1.out.size))
      have H6 := Lib.hid hg6
      clear hg6 ht6
      go_wp2_with fail
      refine (sumRow_any _ _ _ _ _ H6.out).mono ?_
      rintro e w7 ⟨rfl, n7, rfl⟩
      go_wp2_with fail
      refine (len_any _ _ _ _ _ (H6.out.drewN _)).mono ?_
      rintro e w8 ⟨rfl, rfl⟩
      rw [hl2.out]
      go_wp2
      go_roundw
      case rel => exact ⟨k + 1, by go_num, by omega, ⟨v6, by rw [hr.out]; exact H6.out.drewN _⟩, below_drewN HB6.out _⟩
      case measure => simp [intOf]; omega
    · obtain rfl : k = ns.length := by omega
      rw [List.drop_length] at HG
      go_wp2_with fail
      refine (shift_none _ _ _ _ HG.out).mono ?_
      rintro e w4 ⟨rfl, rfl⟩
      go_wp2_with fail
      refine (shift_nil _).mono ?_
      rintro e w5 ⟨rfl, rfl⟩
      go_wp2_with fail
      refine (sumRow_any _ _ _ _ _ HG.out).mono ?_
      rintro e w6 ⟨rfl, n6, rfl⟩
      rw [show sA [] = 0 from rfl, show sB [] = 0 from rfl]
      go_wp2_with fail
      refine (push_nil _ _).mono ?_
      rintro e w7 ⟨rfl, rfl⟩
      go_wp2_with fail
      refine (set_nil _ _ _).mono ?_
      rintro e w8 ⟨rfl, rfl⟩
      go_wp2_with fail
      refine (len_nil _).mono ?_
      rintro e w9 ⟨rfl, rfl⟩
      go_wp2_with fail
      refine (sumRow_nil _).mono ?_
      rintro e w10 ⟨rfl, rfl⟩
      go_wp2_with fail
      refine (ahead_nil _ _).mono ?_
      rintro e w11 ⟨rfl, rfl⟩
      go_wp2_with fail
      refine (over_nil _ _).mono ?_
      rintro e w12 ⟨rfl, rfl⟩
      go_wp2
      go_ret
      exact ⟨rfl, below_drewN HB.out _⟩

end Go.Proofs.Ytadioaeeobmdgaa
