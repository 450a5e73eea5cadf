/-
  BeadCuts: the walk.
  Conditions: the library's variables hold what they are laid with.
-/
import Derived.Test.YtikngajopmogcaaDoorBle
set_option linter.unusedVariables false
set_option linter.unusedSimpArgs false
namespace Go.Proofs.YtikngajopmogcaaDoor
open Go.RowKit

theorem flat_take (zs : List Int) (k : Nat) (h : k < zs.length) : flat (zs.take (k + 1)) = flat (zs.take k) ++ Bd.bInt (zs.getD k 0) := by
  rw [List.take_succ_eq_append_getElem h, flat_snoc]
  simp [List.getD, h]
theorem mod_nat (x : Int) (m : Int) (hm : 0 < m) (hm2 : m ≤ 1000000) : ∃ k : Nat, (IntKind.u64.wrap x).tmod m = (k : Int) ∧ (k : Int) < m := by
  have h0 : 0 ≤ IntKind.u64.wrap x := by rw [IntKind.wrap_u64]; omega
  generalize IntKind.u64.wrap x = y at h0
  refine ⟨(y % m).toNat, ?_, ?_⟩
  · rw [Int.tmod_eq_emod_of_nonneg h0]
    have := Int.emod_nonneg y (show m ≠ 0 by omega)
    omega
  · have h1 := Int.emod_nonneg y (show m ≠ 0 by omega)
    have h2 := Int.emod_lt_of_pos y hm
    omega
theorem sInt_le (q : Bd.St) : (Bd.sInt q).2.1.length ≤ q.1.length := by
  obtain ⟨s, b⟩ := q
  cases b with
  | true => exact Nat.le_refl _
  | false =>
    cases h : Bd.rdInt s with
    | none => simp [Bd.sInt, h]
    | some x =>
      obtain ⟨n, r⟩ := x
      obtain ⟨_, e⟩ := Bd.rdInt_some h
      simp [Bd.sInt, h]
      rw [e, List.length_append]
      omega
set_option maxRecDepth 20000 in
set_option maxHeartbeats 1600000 in
theorem cuts_walk (v : Value) (zs : List Int) (cut : Int) (w : World) (hz : Ints w v zs) (hm : zs.length ≤ maxLen) (hr : ∀ z ∈ zs, Bd.inR z) (hw : Lw w) :
    Calls Tryd.prog 9 #[v, .int .i64 cut] w fun e w' => e = .returned (.bool true) ∧ Below w.heap.size w w' := by
  have HZ := Lib.hid hz
  obtain ⟨a, cap, rfl, _⟩ := hz
  unfold maxLen at hm
  have HW := Lib.hid hw
  have HR := Lib.hid hr
  clear hw hr
  by_cases h50 : zs.length ≤ 50
  · have hfl := flat_length zs HR.out
    go_enter Tryd.func9, Tryd.ntmps9
    go_wp2_with fail
    refine (awake_any _ HW.out).mono ?_
    rintro e w1 ⟨rfl, hb1⟩
    have B1 := Lib.hid hb1
    clear hb1
    go_wp2
    go_loopw [5, 6] (fun s i wr => ∃ k : Nat, i = .int .i64 k ∧ k ≤ zs.length ∧ s = .string ⟨(108 :: flat (zs.take k)).toArray⟩ ∧ Below w.heap.size w wr) (fun s i _ => zs.length - (intOf i).toNat)
    case atStart => exact ⟨0, rfl, by omega, rfl, B1.out⟩
    case round =>
      obtain ⟨k, rfl, hk, rfl, hb⟩ := hrel
      have HB := Lib.hid hb
      clear hb B1
      by_cases hlt : k < zs.length
      · obtain ⟨a', cap', he, hcells⟩ := HZ.out.kept HB.out
        injection he with he1 he2 he3
        subst he1 he3
        obtain ⟨g, off, rfl, hg, hc1⟩ := hcells k hlt
        clear hcells he2
        have HF := Lib.hid (flat_take zs k hlt)
        have hz' := Lib.hid (HR.out (zs.getD k 0) (by simp [List.getD, hlt]))
        have hl1 := flat_length (zs.take k) (fun x hx => HR.out x (List.mem_of_mem_take hx))
        have hl2 := bInt_length hz'.out
        rw [List.length_take] at hl1
        generalize zs.getD k 0 = z at *
        generalize flat (zs.take k) = t at *
        go_wp2_with fail
        refine (beadInt_any z hz'.out _ (HW.out.below HB.out)).mono ?_
        rintro e w2 ⟨rfl, hb2⟩
        have B2 := Lib.hid (bt HB.out hb2)
        clear hb2
        generalize Bd.bInt z = bz at *
        go_wp2
        go_roundw
        case rel => exact ⟨k + 1, by go_num, by omega, by rw [HF.out], B2.out⟩
        case measure => simp [intOf]; omega
      · obtain rfl : k = zs.length := by omega
        rw [List.take_length]
        obtain ⟨k, hmod, hkl⟩ := mod_nat cut (((flat zs).length : Int) + 1 + 1 + 1) (by omega) (by omega)
        have hkl' : k ≤ (108 :: (flat zs ++ [101])).length := by simp; omega
        have HP := Lib.hid (cuts_plain zs HR.out k hkl')
        have hsl := str_to (P := Tryd.prog) (108 :: (flat zs ++ [101])) k k .i64 rfl hkl' 9 Tryd.underlying9
        have htl : ((108 :: (flat zs ++ [101])).take k).length ≤ 2000 := by rw [List.length_take]; omega
        have hlen : ((108 :: (flat zs ++ [101])).length : Int) = ((flat zs).length : Int) + 1 + 1 := by simp
        rw [hlen] at HP
        clear hlen
        generalize List.take k (108 :: (flat zs ++ [101])) = t at *
        go_wp2_with fail
        refine (new_any t _).mono ?_
        rintro e w4 ⟨rfl, rfl⟩
        have B5 : Hid (Below w.heap.size w (wr.alloc (.cells #[.string ⟨t.toArray⟩, .bool false] 53))) := HB.out.alloc HB.out.size _
        have R5 := Lib.hid (Rd.new t wr)
        have hp := HB.out.size
        generalize wr.alloc (.cells #[.string ⟨t.toArray⟩, .bool false] 53) = w5 at *
        generalize wr.heap.size = p at *
        clear HB
        go_wp2_with fail
        refine (open_any _ _ _ R5.out).mono ?_
        rintro e w6 ⟨rfl, h6⟩
        have B6 := Lib.hid (h6.bel B5.out hp)
        have R6 := Lib.hid h6.1
        have hql : (Bd.sSign 108 (t, false)).1.length ≤ 2000 := by
          have := Lib.trimPrefix_le t [108]
          simp [Bd.sSign]
          omega
        clear h6 B5 R5 hsl hmod
        generalize Bd.sSign 108 (t, false) = q0 at *
        go_wp2
        go_loopw [9] (fun i wr => ∃ j : Nat, i = .int .i64 j ∧ j ≤ zs.length ∧ Rd wr p (runInts j q0) ∧ (runInts j q0).1.length ≤ 2000 ∧ Below w.heap.size w wr) (fun i _ => zs.length - (intOf i).toNat)
        case atStart => exact ⟨0, rfl, by omega, R6.out, hql, B6.out⟩
        case round =>
          obtain ⟨j, rfl, hj, hr, hl, hb⟩ := hrel
          have HRj := Lib.hid hr
          have HBj := Lib.hid hb
          clear hr hb R6 B6
          by_cases hlt : j < zs.length
          · go_wp2_with fail
            refine (int_any _ _ _ HRj.out (by omega) (HW.out.below HBj.out)).mono ?_
            rintro e w7 ⟨rfl, h7⟩
            have B7 := Lib.hid (h7.bel HBj.out hp)
            have R7 : Hid (Rd w7 p (runInts (j + 1) q0)) := by rw [Hid, runInts_succ]; exact h7.1
            have hl7 : (runInts (j + 1) q0).1.length ≤ 2000 := by
              rw [runInts_succ]
              exact Nat.le_trans (sInt_le _) hl
            clear h7
            go_wp2
            go_roundw
            case rel => exact ⟨j + 1, by go_num, by omega, R7.out, hl7, B7.out⟩
            case measure => simp [intOf]; omega
          · obtain rfl : j = zs.length := by omega
            go_wp2_with fail
            refine (close_any _ _ _ HRj.out).mono ?_
            rintro e w7 ⟨rfl, h7⟩
            have B7 := Lib.hid (h7.bel HBj.out hp)
            have R7 := Lib.hid h7.1
            clear h7
            go_wp2_with fail
            refine (done_any _ _ _ R7.out).mono ?_
            rintro e w8 ⟨rfl, rfl⟩
            generalize Bd.sDone (Bd.sSign 101 (runInts zs.length q0)) = d at *
            have hpe : ((d == 0) == ((k : Int) == ((flat zs).length : Int) + 1 + 1)) = true := by rw [HP.out]; simp
            clear HP
            go_wp2
            go_ret
            exact ⟨rfl, B7.out⟩
  · go_enter Tryd.func9, Tryd.ntmps9
    go_wp2_with fail
    refine (awake_any _ HW.out).mono ?_
    rintro e w1 ⟨rfl, hb1⟩
    have B1 := Lib.hid hb1
    clear hb1
    go_wp2
    go_ret
    exact ⟨rfl, B1.out⟩

end Go.Proofs.YtikngajopmogcaaDoor
